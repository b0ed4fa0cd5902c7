/-
  AcceptTwice, walked.
-/
import Derived.Test.YtdgmjablkdemmaaUInv7
import Derived.Test.YtdgmjablkdemmaaUCut
namespace Go.Proofs.Ytdgmjablkdemmaa
open Go.RowKit Go.Maps

theorem run_mv {P : Program} {W : World} {ρ : Operand → Value} {o : Oper} {x : Operand} {v : Value} (ho : o.op = .move x ∨ o.op = .assign x) (h : ρ x = v) : (execOp ρ o).run P W = .ok (.value v) W := by
  rcases ho with ho | ho <;> (simp only [execOp, ho, h]; rfl)
set_option maxHeartbeats 16000000 in
set_option maxRecDepth 100000 in
theorem twice_law (w : World) (v u : Value) (bnd : Int) (which : Int) (R : List BRul) (P : List (BCert × Value)) (wt : (Lit.int .u8 which).wf = true) (hv : RulesArg w v R) (hf : RulesFit R) (hca : CertsArg w u P) (_ : CertsFit P) :
    Calls Try.prog 10 #[v, u, .int .i64 bnd, .int .u8 which] w fun e w' => e = .returned (.bool true) ∧ Chg (fun _ => False) w w' := by
  simp only [Lit.wf, Bool.and_eq_true, decide_eq_true_eq] at wt
  have ht0 : 0 ≤ which := wt.1
  have ht1 : which ≤ 255 := wt.2
  clear wt
  obtain ⟨t, rfl⟩ : ∃ t : Nat, which = (t : Int) := ⟨which.toNat, by omega⟩
  have ht : t < 256 := by omega
  clear ht0 ht1
  have hu := hca.at_
  obtain ⟨ra, rc, rfl, hl0, _⟩ := hv.at_
  have HV := Lib.hid hv
  have HF := Lib.hid hf
  have HU := Lib.hid hu
  have HCA := Lib.hid hca
  obtain ⟨la, cap, rfl, hu0, _⟩ := hu
  have AW := Lib.hid (awake12_any w)
  have LG := Lib.hid (fun w1 (k : Chg (fun _ => False) w w1) => large12_any w1 ra R rc _ P bnd _ _ (HV.out.at_.chg k (fun _ _ e => e)) (HU.out.chg k (fun _ _ e => e)))
  clear hv hf hca
  go_enter Try.func10, Try.ntmps10
  go_wp2_with fail
  (with_reducible refine (AW.out).mono ?_)
  rintro e w1 ⟨rfl, k1⟩
  have K1 := Lib.hid k1
  have L1 := Lib.hid (LG.out w1 K1.out)
  clear AW LG k1
  go_wp2_with fail
  (with_reducible refine (L1.out).mono ?_)
  rintro e w1' ⟨lg, rfl, rfl, hlg⟩
  clear L1
  cases lg with
  | true =>
    go_wp2
    go_ret
    exact ⟨rfl, K1.out⟩
  | false =>
  have FIT := Lib.hid (hlg rfl)
  clear hlg
  by_cases hp0 : P.length = 0
  · have g0 : ((P.length : Int) == 0) = true := beq_iff_eq.2 (by omega)
    have g0' : decide (P.length = 0) = true := decide_eq_true hp0
    clear hp0
    go_wp2
    go_ret
    exact ⟨rfl, K1.out⟩
  have g0 : ((P.length : Int) == 0) = false := beq_eq_false_iff_ne.2 (by omega)
  have g0' : decide (P.length = 0) = false := decide_eq_false hp0
  by_cases hp8 : 8 ≤ P.length
  · have g8 : decide (8 ≤ (P.length : Int)) = true := decide_eq_true (by omega)
    have g8' : decide (8 ≤ P.length) = true := decide_eq_true hp8
    clear hp0 hp8
    go_wp2
    go_ret
    exact ⟨rfl, K1.out⟩
  have g8 : decide (8 ≤ (P.length : Int)) = false := decide_eq_false (by omega)
  have g8' : decide (8 ≤ P.length) = false := decide_eq_false hp8
  have hp1 : 0 < P.length := by omega
  have hpl : P.length ≤ 7 := by omega
  have w3 : IntKind.i64.wrap (t : Int) = (t : Int) := by rw [IntKind.wrap_i64]; omega
  obtain ⟨k, hk⟩ : ∃ k, k = t % P.length := ⟨_, rfl⟩
  have hkl : k < P.length := by rw [hk]; exact Nat.mod_lt _ hp1
  have hr : Int.tmod (t : Int) (P.length : Int) = (k : Int) := by
    rw [hk, Int.tmod_eq_emod_of_nonneg (by omega)]
    exact (Int.natCast_emod _ _).symm
  have w5 : IntKind.i64.wrap (k : Int) = (k : Int) := by rw [IntKind.wrap_i64]; omega
  have RV1 := Lib.hid (runV_any (run_args' HV.out HF.out HU.out FIT.out K1.out) bnd (Nat.le_refl _))
  clear hp0 hp8 hk
  go_wp2_with fail
  (with_reducible refine (RV1.out).mono ?_)
  rintro e w2 ⟨s1, s2, x, rfl, hrv, k2⟩
  have HRV := Lib.hid hrv
  obtain ⟨oa, on, oc, va, vn, vc, rfl, rfl, _⟩ := hrv
  have ka := chg_alloc (fun _ => False) w2 (.cells #[.slice oa on oc, .slice va vn vc] 57)
  have RO3 := Lib.hid (obj_alloc_new w2 (.cells #[.slice oa on oc, .slice va vn vc] 57))
  have RV3 := Lib.hid (HRV.out.chg ka (fun _ q => q.elim))
  have K3 := Lib.hid ((K1.out.trans k2).trans ka)
  have hb3 : w1.heap.size ≤ w2.heap.size := k2.size
  clear RV1 k2 ka HRV K1
  go_wp2_with fail
  generalize hr3 : w2.heap.size = r3 at *
  generalize w2.alloc (.cells #[.slice oa on oc, .slice va vn vc] 57) = w3 at *
  obtain ⟨⟨c, sv⟩, hp⟩ : ∃ p, P[k]? = some p := ⟨_, List.getElem?_eq_getElem hkl⟩
  have hcg := certsOf_get hp
  obtain ⟨_, _, e1, _, hcl⟩ := HU.out
  cases e1
  obtain ⟨g, o, sa, sc, rfl, hgg, hsv, c0, c1, c2, c3, c4, c5, c6, hcc⟩ := hcl k _ hp
  simp only at hsv
  subst hsv
  simp only at c0 c1 c2 c3 c4 c5 c6 hcc
  have CELLS := Lib.hid (fun W (q : Chg (fun _ => False) w W) => And.intro (cell_chg q (fun e => e) c0) (And.intro (cell_chg q (fun e => e) c1) (And.intro (cell_chg q (fun e => e) c2) (And.intro (cell_chg q (fun e => e) c3) (And.intro (cell_chg q (fun e => e) c4) (And.intro (cell_chg q (fun e => e) c5) (cell_chg q (fun e => e) c6)))))))
  have OT := Lib.hid (fun s s' (h1 : AFin R (certsOf P) bnd s) (h2 : AFin R (certsOf P ++ [c]) bnd s') => twice_all hcg h1 h2)
  have AR := Lib.hid (fun s h hn => accept_rest (R := R) (b := bnd) (s := s) (show k < (certsOf P).length by rw [certsOf_length]; exact hkl) h hn)
  clear hcl c0 c1 c2 c3 c4 c5 c6
  have KD := Lib.hid (K3.out.drew)
  have ECF : ∀ args w, (callFunc 26 args).run Try.prog w = .ok (.enter 26 args) w := enters_of Try.func26 (by kernel_rfl) rfl
  have IDX := Lib.hid (fun W : World => (show (Instr.indexAt 54 (.slice (some ⟨g, o, none⟩) P.length cap) (.int .i64 (k : Int))).run Try.prog W = .ok (.pointer (some ⟨g, o + k * 7, none⟩)) W from by go_simp))
  have LDC := Lib.hid (fun (W : World) (q : Chg (fun _ => False) w W) => (show (Instr.loadAt 37 (.pointer (some ⟨g, o + k * 7, none⟩))).run Try.prog W = .ok (.agg #[.int .i64 c.kind, .int .u16 (c.sg : Int), .string c.sp, .slice sa c.fr.length sc, .int .i64 c.f, .int .i64 c.t, .int .i64 c.n]) W from by
    obtain ⟨d0, d1, d2, d3, d4, d5, d6⟩ := CELLS.out W q
    go_simp))
  have SETS := Lib.hid (HU.out.sets.one)
  have SETP := Lib.hid (show Sets7 w (· < w.heap.size) [(c, Value.slice sa c.fr.length sc)] from fun p hpp => by
    rw [List.mem_singleton] at hpp
    subst hpp
    exact ⟨sa, sc, rfl, hcc⟩)
  have SET1 := Lib.hid SETP.out.one
  have RAR := Lib.hid (fun (W : World) (q : Chg (fun _ => False) w W) (vv : Value) (hx : W.ownsRow w3.drew.heap.size 37 7 vv (P ++ [(c, Value.slice sa c.fr.length sc)]).length (pcellsL (P ++ [(c, Value.slice sa c.fr.length sc)]))) => (show RunArgs W ra R rc vv (P ++ [(c, Value.slice sa c.fr.length sc)]) (· < W.heap.size) from
    let r := run_args' HV.out HF.out HU.out FIT.out q
    ⟨r.rules, r.nil, r.many, r.size, (certsAt_own hx ((HU.out.sets.append SETP.out).chg q (fun _ _ e => e))).up (fun j hj => hj.elim (fun e => Nat.lt_of_lt_of_le e q.size) (fun e => (hx.lt j e).2)), by rw [List.length_append, List.length_singleton]; omega, fun j hj => hj⟩))
  clear hcc
  refine wp_region_inv (Inv7 w3.drew w3.drew.heap.size R P (c, .slice sa c.fr.length sc) bnd (.slice ra R.length rc) (.slice (some ⟨g, o, none⟩) P.length cap) (.int .i64 (k : Int)) (.pointer (some ⟨g, o + k * 7, none⟩))) (by kernel_rfl) (by kernel_rfl) (by kernel_rfl) (fun _ => undef) ?h0 ?step ?fin
  case h0 => exact ⟨Chg.refl _ _, (fun e => by cases e), (fun e => by cases e), (fun e => by cases e), (fun e => by cases e), (fun e => by cases e), (fun e => by cases e), (fun e => by cases e), (fun e => by cases e), (fun e => by cases e), (fun e => by cases e), (fun e => by cases e), (fun e => by cases e), (fun e => by cases e), (fun e => by cases e), (fun e => by cases e), (fun e => by cases e), (fun e => by cases e), (fun e => by cases e), (fun e => by cases e), (fun e => by cases e), (fun e => by cases e), (fun e => by cases e)⟩
  case step =>
    intro L V W i o' ho hL hdep h
    have hb : w3.drew.heap.size ≤ W.heap.size := h.k.size
    have hi : i < 18 := (Array.getElem?_eq_some_iff.1 ho).1
    rcases (by omega : i = 0 ∨ i = 1 ∨ i = 2 ∨ i = 3 ∨ i = 4 ∨ i = 5 ∨ i = 6 ∨ i = 7 ∨ i = 8 ∨ i = 9 ∨ i = 10 ∨ i = 11 ∨ i = 12 ∨ i = 13 ∨ i = 14 ∨ i = 15 ∨ i = 16 ∨ i = 17) with rfl | rfl | rfl | rfl | rfl | rfl | rfl | rfl | rfl | rfl | rfl | rfl | rfl | rfl | rfl | rfl | rfl | rfl
    all_goals
      simp only [List.getElem?_toArray, List.getElem?_cons_succ, List.getElem?_cons_zero, Option.some.injEq] at ho
      subst ho
      simp [Region.binds] at hdep
    · refine wpList_valW rfl (.slice ra R.length rc) W (run_mv (.inl rfl) (canon_eval0 (Nat.le_of_ble_eq_true rfl) (by kernel_rfl))) ?_
      exact ⟨_, rfl, ⟨h.k, fun _ => rfl, h.r2, h.r4, h.r5, h.r6, h.r7, h.r10, h.a1, h.a2, h.c8, h.ap1, h.ap2, h.b9, h.o9, (fun q => ⟨rfl, (h.o11 q).2⟩), h.o12, h.o13, h.o14, h.o16, h.o17, h.f, h.d⟩⟩
    · have h' := h.chg0 (chg_alloc (fun _ => False) W (.cells #[] 37))
      refine wpList_valW rfl (.slice (some ⟨W.heap.size, 0, none⟩) 0 0) (W.alloc (.cells #[] 37)) (by kernel_rfl) ?_
      exact ⟨_, rfl, ⟨h'.k, h'.r0, h'.r2, h'.r4, h'.r5, h'.r6, h'.r7, h'.r10, (fun _ _ => own_empty _ _ _ _ hb), h'.a2, h'.c8, (fun _ _ q8 q9 y hy e => by have := ((h.c8 q8 q9).2.lt y hy).2; have e2 : W.heap.size = y := Option.some.inj e; omega), h'.ap2, h'.b9, h'.o9, h'.o11, h'.o12, h'.o13, h'.o14, h'.o16, h'.o17, h'.f, h'.d⟩⟩
    · refine wpList_valW rfl (.slice (some ⟨g, o, none⟩) P.length cap) W (run_mv (.inl rfl) (canon_eval0 (Nat.le_of_ble_eq_true rfl) (by kernel_rfl))) ?_
      exact ⟨_, rfl, ⟨h.k, h.r0, fun _ => rfl, h.r4, h.r5, h.r6, h.r7, h.r10, h.a1, h.a2, h.c8, h.ap1, h.ap2, h.b9, h.o9, h.o11, h.o12, h.o13, h.o14, h.o16, h.o17, h.f, h.d⟩⟩
    · refine wpList_pushSF rfl (.tmp 47) (.tmp 48) 54 rfl 37 7 80 Try.underlying54 Try.elemCert w3.drew.heap.size (V 1) 0 [] (canon_eval (Nat.le_of_ble_eq_true rfl) (by kernel_rfl) hdep.1) (h.a1 hdep.1 hL) (some ⟨g, o, none⟩) P.length cap (pcellsL P) ((canon_eval (Nat.le_of_ble_eq_true rfl) (by kernel_rfl) hdep.2).trans (h.r2 hdep.2)) (pcellsL_length P) (certs_src (HU.out.chg (KD.out.trans h.k) (fun _ _ e => e))) (by intro e; cases e) SETS.out (by omega) (by unfold maxLen; omega) hb ?_
      intro v' w' ho' hg' hsn
      have kc : Chg (fun j => (V 1).ownBlock = some j) W w' := Chg.of_grown hg'
      rw [Nat.zero_add] at ho'
      refine ⟨v', rfl, ⟨h.k.next kc (fun j hj e => by have := ((h.a1 hdep.1 hL).lt j e).1; omega), h.r0, h.r2, h.r4, h.r5, h.r6, h.r7, h.r10, (fun _ q => by cases q), (fun _ _ => ho'), (fun q8 q9 => ⟨(h.c8 q8 q9).1, own_chg (h.c8 q8 q9).2 kc (fun j hj e => h.ap1 hdep.1 hL q8 q9 j hj e)⟩), (fun _ q => by cases q), (fun _ q8 q9 y hy e => hsn.elim (fun q => h.ap1 hdep.1 hL q8 q9 y hy (q ▸ e)) (fun q => by have := q y e; have := ((h.c8 q8 q9).2.lt y hy).2; omega)), (fun q => by have q9 := (h.o9 q).1; rw [q9] at hL; cases hL), (fun q => ⟨rfl, (h.o9 q).2⟩), h.o11, h.o12, h.o13, h.o14, h.o16, h.o17, (fun q => by have q9 := (h.o9 (h.o11 q).2.1).1; rw [q9] at hL; cases hL), (fun x y => by obtain ⟨gd, e1, e2, e3⟩ := h.d x y; exact ⟨gd, e1, kc.obj (fun e => row_ne (h.a1 hdep.1 hL) e2 (by decide) e) e2, e3⟩)⟩⟩
    · refine wpList_valW rfl (.slice (some ⟨g, o, none⟩) P.length cap) W (run_mv (.inl rfl) (canon_eval0 (Nat.le_of_ble_eq_true rfl) (by kernel_rfl))) ?_
      exact ⟨_, rfl, ⟨h.k, h.r0, h.r2, fun _ => rfl, h.r5, h.r6, h.r7, h.r10, h.a1, h.a2, h.c8, h.ap1, h.ap2, h.b9, h.o9, h.o11, h.o12, h.o13, h.o14, h.o16, h.o17, h.f, h.d⟩⟩
    · refine wpList_valW rfl (.int .i64 (k : Int)) W (run_mv (.inl rfl) (canon_eval0 (Nat.le_of_ble_eq_true rfl) (by kernel_rfl))) ?_
      exact ⟨_, rfl, ⟨h.k, h.r0, h.r2, h.r4, fun _ => rfl, h.r6, h.r7, h.r10, h.a1, h.a2, h.c8, h.ap1, h.ap2, h.b9, h.o9, h.o11, h.o12, h.o13, h.o14, h.o16, h.o17, h.f, h.d⟩⟩
    · refine wpList_valW rfl (.pointer (some ⟨g, o + k * 7, none⟩)) W (run_idx rfl ((canon_eval (Nat.le_of_ble_eq_true rfl) (by kernel_rfl) hdep.1).trans (h.r4 hdep.1)) ((canon_eval (Nat.le_of_ble_eq_true rfl) (by kernel_rfl) hdep.2).trans (h.r5 hdep.2)) (IDX.out W)) ?_
      exact ⟨_, rfl, ⟨h.k, h.r0, h.r2, h.r4, h.r5, fun _ => rfl, h.r7, h.r10, h.a1, h.a2, h.c8, h.ap1, h.ap2, h.b9, h.o9, h.o11, h.o12, h.o13, h.o14, h.o16, h.o17, h.f, h.d⟩⟩
    · refine wpList_valW rfl (.agg #[.int .i64 c.kind, .int .u16 (c.sg : Int), .string c.sp, .slice sa c.fr.length sc, .int .i64 c.f, .int .i64 c.t, .int .i64 c.n]) W (run_ld rfl ((canon_eval (Nat.le_of_ble_eq_true rfl) (by kernel_rfl) hdep).trans (h.r6 hdep)) (LDC.out W (KD.out.trans h.k))) ?_
      exact ⟨_, rfl, ⟨h.k, h.r0, h.r2, h.r4, h.r5, h.r6, fun _ => rfl, h.r10, h.a1, h.a2, h.c8, h.ap1, h.ap2, h.b9, h.o9, h.o11, h.o12, h.o13, h.o14, h.o16, h.o17, h.f, h.d⟩⟩
    · have h' := h.chg0 (chg_alloc (fun _ => False) W (.cells #[.int .i64 c.kind, .int .u16 (c.sg : Int), .string c.sp, .slice sa c.fr.length sc, .int .i64 c.f, .int .i64 c.t, .int .i64 c.n] 37))
      refine wpList_valW rfl (.slice (some ⟨W.heap.size, 0, none⟩) 1 1) (W.alloc (.cells #[.int .i64 c.kind, .int .u16 (c.sg : Int), .string c.sp, .slice sa c.fr.length sc, .int .i64 c.f, .int .i64 c.t, .int .i64 c.n] 37)) (run_bs1 rfl ((canon_eval (Nat.le_of_ble_eq_true rfl) (by kernel_rfl) hdep).trans (h.r7 hdep)) (by kernel_rfl)) ?_
      exact ⟨_, rfl, ⟨h'.k, h'.r0, h'.r2, h'.r4, h'.r5, h'.r6, h'.r7, h'.r10, h'.a1, h'.a2, (fun _ _ => ⟨⟨_, rfl⟩, own_base (own_lit (xs := pcellsL [(c, .slice sa c.fr.length sc)]) rfl (by decide)) hb⟩), (fun q1 q3 _ _ y hy e => by have := ((h.a1 q1 q3).lt y e).2; have e2 : W.heap.size = y := Option.some.inj hy; omega), (fun q3 _ q9 y hy e => by have := ((h.a2 q3 q9).lt y e).2; have e2 : W.heap.size = y := Option.some.inj hy; omega), h'.b9, (fun q => ⟨(h.o9 q).1, rfl⟩), h'.o11, h'.o12, h'.o13, h'.o14, h'.o16, h'.o17, h'.f, h'.d⟩⟩
    · replace hdep : L 3 = true ∧ L 8 = true := ⟨hdep.1, hdep.2.1⟩
      obtain ⟨⟨gc, e8⟩, oc8⟩ := h.c8 hdep.2 hL
      have oc9 := oc8
      rw [e8] at oc9
      refine wpList_pushSF rfl (.tmp 49) (.tmp 54) 54 rfl 37 7 80 Try.underlying54 Try.elemCert w3.drew.heap.size (V 3) P.length (pcellsL P) (canon_eval (Nat.le_of_ble_eq_true rfl) (by kernel_rfl) hdep.1) (h.a2 hdep.1 hL) (some ⟨gc, 0, none⟩) 1 1 (pcellsL [(c, .slice sa c.fr.length sc)]) ((canon_eval (Nat.le_of_ble_eq_true rfl) (by kernel_rfl) hdep.2).trans e8) rfl (fun j u hj => ⟨gc, 0, rfl, by rw [Nat.zero_add, oc9.cellAt (j := j) (by have := (List.getElem?_eq_some_iff.1 hj).1; rw [pcellsL_length] at this; exact this)]; exact hj⟩) (by intro e; cases e) SET1.out (by omega) (by unfold maxLen; omega) hb ?_
      intro v' w' ho' hg' hsn
      have kc : Chg (fun j => (V 3).ownBlock = some j) W w' := Chg.of_grown hg'
      refine ⟨v', rfl, ⟨h.k.next kc (fun j hj e => by have := ((h.a2 hdep.1 hL).lt j e).1; omega), h.r0, h.r2, h.r4, h.r5, h.r6, h.r7, h.r10, (fun _ q => by have q2 : L 3 = false := q; rw [hdep.1] at q2; cases q2), (fun _ q => by cases q), (fun _ q => by cases q), (fun _ _ _ q => by cases q), (fun _ _ q => by cases q), (fun _ => by rw [pcellsL_append, List.length_append]; exact ho'), (fun _ => hdep), (fun q => ⟨(h.o11 q).1, rfl, (h.o11 q).2.2⟩), h.o12, h.o13, h.o14, h.o16, h.o17, (fun q => by have q9 := (h.o11 q).2.1; rw [q9] at hL; cases hL), (fun x y => by obtain ⟨gd, e1, e2, e3⟩ := h.d x y; exact ⟨gd, e1, kc.obj (fun e => row_ne (h.a2 hdep.1 hL) e2 (by decide) e) e2, e3⟩)⟩⟩
    · refine wpList_valW rfl (.int .i64 bnd) W (run_mv (.inl rfl) (canon_eval0 (Nat.le_of_ble_eq_true rfl) (by kernel_rfl))) ?_
      exact ⟨_, rfl, ⟨h.k, h.r0, h.r2, h.r4, h.r5, h.r6, h.r7, fun _ => rfl, h.a1, h.a2, h.c8, h.ap1, h.ap2, h.b9, h.o9, (fun q => ⟨(h.o11 q).1, (h.o11 q).2.1, rfl⟩), h.o12, h.o13, h.o14, h.o16, h.o17, h.f, h.d⟩⟩
    · replace hdep : L 0 = true ∧ L 9 = true ∧ L 10 = true := ⟨hdep.1, hdep.2.1, hdep.2.2.1⟩
      have ra' := RAR.out W (KD.out.trans h.k) (V 9) (h.b9 hdep.2.1)
      refine wpList_calls rfl 26 #[.slice ra R.length rc, V 9, .int .i64 bnd] (run_cl3 rfl rfl ((canon_eval (Nat.le_of_ble_eq_true rfl) (by kernel_rfl) hdep.1).trans (h.r0 hdep.1)) (canon_eval (Nat.le_of_ble_eq_true rfl) (by kernel_rfl) hdep.2.1) ((canon_eval (Nat.le_of_ble_eq_true rfl) (by kernel_rfl) hdep.2.2).trans (h.r10 hdep.2.2)) ECF) (runV_any ra' bnd hb) ?_
      rintro e w' ⟨s1, s2, x, he, hrv, hc⟩
      have h' := h.chg0 hc
      refine ⟨_, he, _, rfl, ⟨h'.k, h'.r0, h'.r2, h'.r4, h'.r5, h'.r6, h'.r7, h'.r10, h'.a1, h'.a2, h'.c8, h'.ap1, h'.ap2, h'.b9, h'.o9, (fun _ => hdep), (fun _ => rfl), h'.o13, h'.o14, h'.o16, h'.o17, (fun _ => ⟨s1, s2, x, rfl, hrv, (fun q => by have q9 := h.o12 q; rw [q9] at hL; cases hL), (fun q => by have q9 := h.o12 (h.o13 q); rw [q9] at hL; cases hL), (fun q => by have q9 := h.o12 (h.o14 q); rw [q9] at hL; cases hL), (fun q => by have q9 := h.o12 (h.o13 (h.o16 q).1); rw [q9] at hL; cases hL), (fun q => by have q9 := h.o12 (h.o14 (h.o17 q)); rw [q9] at hL; cases hL)⟩), h'.d⟩⟩
    · obtain ⟨s1, s2, x, e, hrv, _, _, _, _, _⟩ := h.f hdep
      refine wpList_valW rfl _ W (run_mv (.inl rfl) ((canon_eval (Nat.le_of_ble_eq_true rfl) (by kernel_rfl) hdep).trans e)) ?_
      exact ⟨_, rfl, ⟨h.k, h.r0, h.r2, h.r4, h.r5, h.r6, h.r7, h.r10, h.a1, h.a2, h.c8, h.ap1, h.ap2, h.b9, h.o9, h.o11, (fun _ => hdep), (fun _ => rfl), (fun _ => rfl), h.o16, h.o17, (fun _ => ⟨s1, s2, x, e, hrv, (fun _ => rfl), (fun q => by have q9 := h.o13 q; rw [q9] at hL; cases hL), (fun q => by have q9 := h.o14 q; rw [q9] at hL; cases hL), (fun q => by have q9 := h.o13 (h.o16 q).1; rw [q9] at hL; cases hL), (fun q => by have q9 := h.o14 (h.o17 q); rw [q9] at hL; cases hL)⟩), h.d⟩⟩
    · obtain ⟨s1, s2, x, e, hrv, q2, _, q4, _, q6⟩ := h.f (h.o12 hdep)
      refine wpList_valW rfl (.agg #[s1, s2]) W (run_ex rfl ((canon_eval (Nat.le_of_ble_eq_true rfl) (by kernel_rfl) hdep).trans (q2 hdep)) (by kernel_rfl)) ?_
      exact ⟨_, rfl, ⟨h.k, h.r0, h.r2, h.r4, h.r5, h.r6, h.r7, h.r10, h.a1, h.a2, h.c8, h.ap1, h.ap2, h.b9, h.o9, h.o11, h.o12, (fun _ => hdep), h.o14, (fun q => ⟨rfl, (h.o16 q).2⟩), h.o17, (fun _ => ⟨s1, s2, x, e, hrv, q2, (fun _ => rfl), q4, (fun q => by have q9 := (h.o16 q).1; rw [q9] at hL; cases hL), q6⟩), h.d⟩⟩
    · obtain ⟨s1, s2, x, e, hrv, q2, q3, _, q5, _⟩ := h.f (h.o12 hdep)
      refine wpList_valW rfl (.int .i64 x) W (run_ex rfl ((canon_eval (Nat.le_of_ble_eq_true rfl) (by kernel_rfl) hdep).trans (q2 hdep)) (by kernel_rfl)) ?_
      exact ⟨_, rfl, ⟨h.k, h.r0, h.r2, h.r4, h.r5, h.r6, h.r7, h.r10, h.a1, h.a2, h.c8, h.ap1, h.ap2, h.b9, h.o9, h.o11, h.o12, h.o13, (fun _ => hdep), h.o16, (fun _ => rfl), (fun _ => ⟨s1, s2, x, e, hrv, q2, q3, (fun _ => rfl), q5, (fun q => by have q9 := h.o17 q; rw [q9] at hL; cases hL)⟩), h.d⟩⟩
    · have h' := h.chg0 (chg_alloc (fun _ => False) W (.cells #[.slice none 0 0, .slice none 0 0] 57))
      refine wpList_valW rfl (.pointer (some ⟨W.heap.size, 0, none⟩)) (W.alloc (.cells #[.slice none 0 0, .slice none 0 0] 57)) (run_al rfl (by kernel_rfl)) ?_
      exact ⟨_, rfl, ⟨h'.k, h'.r0, h'.r2, h'.r4, h'.r5, h'.r6, h'.r7, h'.r10, h'.a1, h'.a2, h'.c8, h'.ap1, h'.ap2, h'.b9, h'.o9, h'.o11, h'.o12, h'.o13, h'.o14, (fun q => ⟨(h.o16 q).1, rfl⟩), h'.o17, (fun q => by obtain ⟨s1, s2, x, e, hrv, q2, q3, q4, _, q6⟩ := h'.f q; exact ⟨s1, s2, x, e, hrv, q2, q3, q4, (fun q => by have q9 := (h.o16 q).2; rw [q9] at hL; cases hL), q6⟩), (fun _ _ => ⟨W.heap.size, rfl, obj_alloc_new _ _, hb⟩)⟩⟩
    · replace hdep : L 13 = true ∧ L 15 = true := ⟨hdep.2.1, hdep.1⟩
      obtain ⟨s1, s2, x, e, hrv, q2, q3, q4, _, q6⟩ := h.f (h.o12 (h.o13 hdep.1))
      obtain ⟨gd, e15, od, hbd⟩ := h.d hdep.2 hL
      refine wpList_store_all rfl 57 (.tmp 12) (.tmp 58) rfl gd ((canon_eval (Nat.le_of_ble_eq_true rfl) (by kernel_rfl) hdep.2).trans e15) (.agg #[s1, s2]) ((canon_eval (Nat.le_of_ble_eq_true rfl) (by kernel_rfl) hdep.1).trans (q3 hdep.1)) ?hone #[.slice none 0 0, .slice none 0 0] 57 od rfl Try.sizeResult ?hst
      case hone =>
        obtain ⟨_, _, _, _, _, _, rfl, rfl, _⟩ := hrv
        intro y hy
        simp [Value.cells] at hy
        rcases hy with rfl | rfl <;> rfl
      case hst =>
        intro w' hob hc
        have hcert : ∀ {vv : Value} {nn : Nat} {xx : List Value}, W.ownsRow w3.drew.heap.size 37 7 vv nn xx → w'.ownsRow w3.drew.heap.size 37 7 vv nn xx := fun hx => own_chg hx hc (fun j hj q => row_ne hx od (by decide) (q ▸ hj))
        exact ⟨undef, rfl, ⟨h.k.next hc (fun j hj q => by omega), h.r0, h.r2, h.r4, h.r5, h.r6, h.r7, h.r10, (fun x y => hcert (h.a1 x y)), (fun x y => hcert (h.a2 x y)), (fun x y => ⟨(h.c8 x y).1, hcert (h.c8 x y).2⟩), h.ap1, h.ap2, (fun x => hcert (h.b9 x)), h.o9, h.o11, h.o12, h.o13, h.o14, (fun _ => hdep), h.o17, (fun _ => ⟨s1, s2, x, e, hrv.chg hc (fun j q => ⟨_, _, q ▸ od⟩), q2, q3, q4, (fun _ => ⟨gd, e15, hob⟩), q6⟩), (fun _ q => by cases q)⟩⟩
    · replace hdep : L 14 = true := hdep.1
      obtain ⟨s1, s2, x, e, hrv, q2, q3, q4, q5, _⟩ := h.f (h.o12 (h.o14 hdep))
      refine wpList_valW rfl _ W (run_mv (.inr rfl) ((canon_eval (Nat.le_of_ble_eq_true rfl) (by kernel_rfl) hdep).trans (q4 hdep))) ?_
      exact ⟨_, rfl, ⟨h.k, h.r0, h.r2, h.r4, h.r5, h.r6, h.r7, h.r10, h.a1, h.a2, h.c8, h.ap1, h.ap2, h.b9, h.o9, h.o11, h.o12, h.o13, h.o14, h.o16, (fun _ => hdep), (fun _ => ⟨s1, s2, x, e, hrv, q2, q3, q4, q5, (fun _ => rfl)⟩), h.d⟩⟩
  case fin =>
    intro L V W hall h
    obtain ⟨s1, s2, x2, _, hrv2, _, _, _, q16, q17⟩ := h.f (hall 11 (Nat.le_of_ble_eq_true rfl))
    obtain ⟨gd, e15, od⟩ := q16 (hall 16 (Nat.le_of_ble_eq_true rfl))
    have e17 := q17 (hall 17 (Nat.le_of_ble_eq_true rfl))
    have K5 := Lib.hid (KD.out.trans h.k)
    have RO5 := Lib.hid (h.k.obj (fun e => e) ((chg_drew (fun _ => False) w3).obj (fun e => e) RO3.out))
    have RV5 := Lib.hid ((RV3.out.chg (chg_drew (fun _ => False) w3) (fun _ q => q.elim)).chg h.k (fun _ q => q.elim))
    have RW5 := Lib.hid hrv2
    have OD5 := Lib.hid od
    obtain ⟨ob, on2, oc2, vb, vn2, vc2, rfl, rfl, _⟩ := hrv2
    rw [canon_all (by kernel_rfl) hall]
    clear q16 q17 h hall od RO3 RV3 K3 KD LDC IDX RAR
    simp only [putAll, dstOf, List.size_toArray, List.length_cons, List.length_nil, Nat.zero_add, Nat.reduceAdd, List.getElem?_toArray, List.getElem?_cons_succ, List.getElem?_cons_zero, Option.bind_some]
    rw [e15, e17]
    have hce : certsOf (P ++ [(c, Value.slice sa c.fr.length sc)]) = certsOf P ++ [c] := by unfold certsOf; rw [List.map_append]; rfl
    rw [hce] at RW5
    generalize V 0 = y0
    generalize V 1 = y1
    generalize V 2 = y2
    generalize V 3 = y3
    generalize V 4 = y4
    generalize V 5 = y5
    generalize V 6 = y6
    generalize V 7 = y7
    generalize V 8 = y8
    generalize V 9 = y9
    generalize V 10 = y10
    generalize V 11 = y11
    generalize V 12 = y12
    generalize V 13 = y13
    generalize V 14 = y14
    generalize V 16 = y16
    clear e15 e17 hce
    by_cases hx : x = 0
    rotate_left
    · have gx : (x != 0) = true := by rw [bne_iff_ne]; exact hx
      clear hx
      go_wp2
      go_ret
      exact ⟨rfl, K5.out⟩
    subst hx
    by_cases hx2 : x2 = 0
    rotate_left
    · have gx : (x2 != 0) = true := by rw [bne_iff_ne]; exact hx2
      clear hx2
      go_wp2
      go_ret
      exact ⟨rfl, K5.out⟩
    subst hx2
    obtain ⟨_, _, _, _, _, _, q1, q2, q3⟩ := RV5.out
    cases q1
    cases q2
    obtain ⟨_, s, hs, rfl, rfl, ho1, hr1⟩ : (0 : Int) = 0 ∧ _ := q3.resolve_left (fun q => q.1 rfl)
    obtain ⟨_, _, _, _, _, _, q1, q2, q4⟩ := RW5.out
    cases q1
    cases q2
    obtain ⟨_, s', hs', rfl, rfl, ho2, hr2⟩ : (0 : Int) = 0 ∧ _ := q4.resolve_left (fun q => q.1 rfl)
    obtain ⟨T1, T2⟩ := OT.out s s' (accept_fin hs).1 (accept_fin hs').1
    rw [certsOf_length] at T2
    have A1 := Lib.hid ho1
    have B1 := Lib.hid hr1
    have A2 := Lib.hid ho2
    have REST := Lib.hid (AR.out s hs)
    have FEWS := Lib.hid (show ∀ r ∈ s.rules, r.1.size ≤ maxLen ∧ r.2.size ≤ maxLen from fun r hr => by
      have hq := accept_ok hs
      have := (RunOk.few hs (fun r hr => by have := (FIT.out.small' (by omega)).2 r hr; unfold maxLen; omega)).2 r hr
      unfold maxLen at *; omega)
    clear q3 q4 hs hs' ho1 hr1 ho2 hr2 RV5 RW5 OT AR
    have FACT := Lib.hid (fun (X : World) (q : Chg (fun _ => False) W X) => And.intro (show X.cell? ⟨r3, 0, none⟩ = some (.slice oa s.order.length oc) from cell_of (o := 0) (q.obj (fun e => e) RO5.out) rfl) (And.intro (show X.cell? ⟨r3, 1, none⟩ = some (.slice va s.rules.length vc) from cell_of (o := 1) (q.obj (fun e => e) RO5.out) rfl) (And.intro (show X.cell? ⟨gd, 0, none⟩ = some (.slice ob s'.order.length oc2) from cell_of (o := 0) (q.obj (fun e => e) OD5.out) rfl) (show X.cell? ⟨gd, 1, none⟩ = some (.slice vb s'.rules.length vc2) from cell_of (o := 1) (q.obj (fun e => e) OD5.out) rfl))))
    have HA := Lib.hid (fun (X : World) (q : Chg (fun _ => False) W X) => has_own (va := va) (vn := s.rules.length) (vc := vc) (own_chg A1.out q (fun _ _ e => e)) k (k : Int) rfl)
    have HB := Lib.hid (fun (X : World) (q : Chg (fun _ => False) W X) => has_own (va := vb) (vn := s'.rules.length) (vc := vc2) (own_chg A2.out q (fun _ _ e => e)) k (k : Int) rfl)
    have HC := Lib.hid (fun (X : World) (q : Chg (fun _ => False) W X) => has_own (va := vb) (vn := s'.rules.length) (vc := vc2) (own_chg A2.out q (fun _ _ e => e)) P.length (P.length : Int) rfl)
    rw [← T2, ← T1] at HC
    rw [← T1] at HB
    have RST := Lib.hid (show decide (k ∈ s.order) = false → ∃ t, acceptE R ((certsOf P).eraseIdx k) bnd = .ok t ∧ t.rules = s.rules ∧ t.order.length = s.order.length from fun q => REST.out (of_decide_eq_false q))
    clear T1 T2 REST
    generalize decide (k ∈ s.order) = b1 at *
    have gb : (b1 != b1) = false := by simp
    go_wp2_with fail
    refine wp_region_plan (N := 121) [.rd [0, 1, 3, 4], .ef 2, .ef 5, .rd [6, 7, 8, 9, 11, 12, 13], .ef 10, .ef 14, .rd [15, 16]] (fun w' => w'.cell? ⟨r3, 0, none⟩ = some (.slice oa s.order.length oc) ∧ w'.cell? ⟨r3, 1, none⟩ = some (.slice va s.rules.length vc) ∧ w'.cell? ⟨gd, 0, none⟩ = some (.slice ob s'.order.length oc2) ∧ w'.cell? ⟨gd, 1, none⟩ = some (.slice vb s'.rules.length vc2)) (by kernel_rfl) (by kernel_rfl) (by kernel_rfl) (by kernel_rfl) (Nat.le_of_ble_eq_true rfl) (FACT.out _ (chg_drew _ _)) ?_
    refine plan_rd (A := ?B1) ?i1 ?i2
    case i1 =>
      rintro w' ⟨f0, f1, f2, f3⟩ K hK
      simp only [opsAt, List.filterMap_cons, List.filterMap_nil, List.getElem?_toArray, List.getElem?_cons_succ, List.getElem?_cons_zero]
      repeat still_step
      refine wpStill_nil ?_
      exact hK
    have KX := Lib.hid (chg_drew (fun _ => False) W)
    generalize W.drew = wd at *
    have H1 := Lib.hid (HA.out wd KX.out)
    refine plan_ef rfl ?_
    go_wp2_with fail
    (with_reducible refine (H1.out).mono ?_)
    rintro e w10 ⟨rfl, k10⟩
    have KY := Lib.hid (KX.out.trans k10)
    have H2 := Lib.hid (HB.out w10 KY.out)
    clear k10 KX H1
    go_wp2_with fail
    refine ⟨FACT.out _ KY.out, ?_⟩
    refine plan_ef rfl ?_
    go_wp2_with fail
    (with_reducible refine (H2.out).mono ?_)
    rintro e w11 ⟨rfl, k11⟩
    have KZ := Lib.hid (KY.out.trans k11)
    have H3 := Lib.hid (HB.out w11 KZ.out)
    clear k11 KY H2 HB
    go_wp2_with fail
    refine ⟨FACT.out _ KZ.out, ?_⟩
    refine plan_rd (A := ?B2) ?i3 ?i4
    case i3 =>
      rintro w' ⟨f0, f1, f2, f3⟩ K hK
      simp only [opsAt, List.filterMap_cons, List.filterMap_nil, List.getElem?_toArray, List.getElem?_cons_succ, List.getElem?_cons_zero]
      repeat still_step
      refine wpStill_nil ?_
      exact hK
    refine plan_ef rfl ?_
    go_wp2_with fail
    (with_reducible refine (H3.out).mono ?_)
    rintro e w12 ⟨rfl, k12⟩
    have KU := Lib.hid (KZ.out.trans k12)
    have H4 := Lib.hid (HC.out w12 KU.out)
    clear k12 KZ H3 HC
    go_wp2_with fail
    refine ⟨FACT.out _ KU.out, ?_⟩
    refine plan_ef rfl ?_
    go_wp2_with fail
    (with_reducible refine (H4.out).mono ?_)
    rintro e w13 ⟨rfl, k13⟩
    have KV := Lib.hid (KU.out.trans k13)
    clear k13 KU H4
    go_wp2_with fail
    refine ⟨FACT.out _ KV.out, ?_⟩
    refine plan_rd (A := ?B3) ?i5 ?i6
    case i5 =>
      intro w' hS K hK
      clear hS
      simp only [opsAt, List.filterMap_cons, List.filterMap_nil, List.getElem?_toArray, List.getElem?_cons_succ, List.getElem?_cons_zero]
      repeat still_step
      refine wpStill_nil ?_
      exact hK
    refine plan_nil ?_
    obtain ⟨f0, f1, _, _⟩ := FACT.out _ KV.out
    have H5 := Lib.hid (HA.out w13 KV.out)
    clear HA
    go_wp2_with fail
    clear f0 f1
    (with_reducible refine (H5.out).mono ?_)
    rintro e w14 ⟨rfl, k14⟩
    have KT := Lib.hid (KV.out.trans k14)
    have K14 := Lib.hid (K5.out.trans KT.out)
    clear k14 KV H5
    cases b1 with
    | true =>
      go_wp2
      go_ret
      exact ⟨rfl, K14.out⟩
    | false =>
    obtain ⟨⟨od3, rl3⟩, hs3, hr3', hl3⟩ := RST.out rfl
    simp only at hr3' hl3
    subst hr3'
    have hcap : P.length ≤ cap := HCA.out.fit _ _ _ rfl
    have SLT := fun W' => take_run (la := some ⟨g, o, none⟩) (n := k) (m := P.length) (cap := cap) W' (by omega) hcap
    obtain ⟨ld, cd, hD, hDn, hDr⟩ := drop_certs HU.out (n := k + 1) (by omega) (.inr hcap) (fun e => by cases e)
    have SLD : ∀ w', (Instr.slice 54 (.slice (some ⟨g, o, none⟩) P.length cap) (some (.int .i64 ((k : Int) + 1))) none none).run Try.prog w' = .ok (.slice ld (P.drop (k + 1)).length cd) w' := fun w' => by
      have := hDr w'
      rwa [show ((k + 1 : Nat) : Int) = (k : Int) + 1 from by omega] at this
    have htk : (P.take k).length = k := by rw [List.length_take]; omega
    have hT := take_certs HU.out (n := k) (by omega)
    rw [htk] at hT
    have hdl : (P.drop (k + 1)).length ≤ 7 := by rw [List.length_drop]; omega
    have HT := Lib.hid hT
    have HD := Lib.hid hD
    have HDN := Lib.hid hDn
    have w6 : IntKind.i64.wrap ((k : Int) + 1) = (k : Int) + 1 := by rw [IntKind.wrap_i64]; omega
    have PL := Lib.hid (pcellsL_length (P.take k))
    rw [htk] at PL
    have REST := Lib.hid (show certsOf (P.take k ++ P.drop (k + 1)) = (certsOf P).eraseIdx k by unfold certsOf; rw [List.map_append, List.map_take, List.map_drop, List.eraseIdx_eq_take_drop_succ])
    have HL3 := Lib.hid hl3
    have HS3 := Lib.hid hs3
    have TLEN := Lib.hid htk
    clear hT hD hDn hDr RST htk hl3 hs3
    generalize P.drop (k + 1) = PD at *
    generalize P.take k = PT at *
    go_wp2_with fail
    refine wp_region_plan (N := 121) [.rd [1, 2, 3, 5, 6, 7, 8], .ef 0, .ef 4, .ef 9, .rd [10]] (fun _ => True) (by kernel_rfl) (by kernel_rfl) (by kernel_rfl) (by kernel_rfl) (Nat.le_of_ble_eq_true rfl) trivial ?_
    refine plan_rd (A := ?C1) ?j1 ?j2
    case j1 =>
      intro w' _ K hK
      simp only [opsAt, List.filterMap_cons, List.filterMap_nil, List.getElem?_toArray, List.getElem?_cons_succ, List.getElem?_cons_zero]
      repeat still_step
      refine wpStill_nil ?_
      exact hK
    have KD14 := Lib.hid (K14.out.drew)
    have KDT := Lib.hid (KT.out.drew)
    have HWD := Lib.hid (show w.heap.size ≤ w14.drew.heap.size ∧ W.heap.size ≤ w14.drew.heap.size from ⟨KD14.out.size, KDT.out.size⟩)
    clear KT K14 SLT SLD w6
    generalize w14.drew = wd2 at *
    refine plan_ef rfl ?_
    go_wp2_with fail
    refine ⟨trivial, ?_⟩
    refine plan_ef rfl ?_
    refine wpList_pushS rfl (.tmp 86) (.tmp 89) 54 rfl 37 7 80 Try.underlying54 Try.elemCert wd2.heap.size (.slice (some ⟨wd2.heap.size, 0, none⟩) 0 0) 0 [] rfl (own_empty _ _ _ _ (Nat.le_refl _)) (some ⟨g, o, none⟩) k cap (pcellsL PT) rfl PL.out (certs_src (HT.out.chg (KD14.out.alloc _) (fun _ _ e => e))) (by intro e; cases e) HT.out.sets.one (by omega) (by unfold maxLen; omega) (by simp) ?_
    intro v8 w18 o8 g8
    obtain ⟨a8, c8, rfl⟩ := own_shape o8
    have k8 : Chg (fun _ => False) wd2 w18 := (chg_alloc (fun _ => False) wd2 (.cells #[] 37)).next (Chg.of_grown g8) (fun x hx e => by
      have e2 : wd2.heap.size = x := by simpa [Value.ownBlock] using e
      omega)
    have O8 := Lib.hid (show w18.ownsRow wd2.heap.size 37 7 (.slice a8 (0 + k) c8) k (pcellsL PT) from by simpa using o8)
    have K8 := Lib.hid (KD14.out.trans k8)
    have KE8 := Lib.hid (KDT.out.trans k8)
    have h8 : wd2.heap.size ≤ w18.heap.size := k8.size
    clear o8 g8 k8 KD14 KDT
    rw [Nat.zero_add] at O8 ⊢
    go_wp2_with fail
    refine ⟨trivial, ?_⟩
    refine plan_ef rfl ?_
    refine wpList_pushS rfl (.tmp 90) (.tmp 94) 54 rfl 37 7 80 Try.underlying54 Try.elemCert wd2.heap.size (.slice a8 k c8) k (pcellsL PT) rfl O8.out ld PD.length cd (pcellsL PD) rfl (pcellsL_length PD) (certs_src (HD.out.chg K8.out (fun _ _ e => e))) HDN.out HD.out.sets.one (by omega) (by unfold maxLen; omega) h8 ?_
    intro v9 w19 o9 g9
    obtain ⟨a9, c9, rfl⟩ := own_shape o9
    have k9 := Chg.of_grown g9
    have hwd : w.heap.size ≤ wd2.heap.size ∧ W.heap.size ≤ wd2.heap.size := HWD.out
    have K9 := Lib.hid (K8.out.next k9 (fun j hj e => by have := (O8.out.lt j e).1; omega))
    have KE9 := Lib.hid (KE8.out.next k9 (fun j hj e => by have := (O8.out.lt j e).1; omega))
    have O9 := Lib.hid (show w19.ownsRow wd2.heap.size 37 7 (.slice a9 (k + PD.length) c9) (PT ++ PD).length (pcellsL (PT ++ PD)) from by
      rw [List.length_append, pcellsL_append, TLEN.out]; exact o9)
    have ra' := run_args' HV.out HF.out HU.out FIT.out K9.out
    have RN := Lib.hid (run_ok (b := bnd) (s := ⟨od3, s.rules⟩) (show RunArgs w19 ra R rc (.slice a9 (k + PD.length) c9) (PT ++ PD) (· < w19.heap.size) from
      ⟨ra'.rules, ra'.nil, ra'.many, ra'.size, (certsAt_own O9.out ((HT.out.sets.append HD.out.sets).chg K9.out (fun _ _ e => e))).up (fun j hj => hj.elim (fun e => Nat.lt_of_lt_of_le e K9.out.size) (fun e => (O9.out.lt j e).2)), by rw [List.length_append, TLEN.out]; omega, fun j hj => hj⟩) (by rw [REST.out]; exact HS3.out))
    clear o9 g9 k9 ra' O8 K8 KE8 O9
    go_wp2_with fail
    refine ⟨trivial, ?_⟩
    refine plan_rd (A := ?C2) ?j3 ?j4
    case j3 =>
      intro w' _ K hK
      simp only [opsAt, List.filterMap_cons, List.filterMap_nil, List.getElem?_toArray, List.getElem?_cons_succ, List.getElem?_cons_zero]
      repeat still_step
      refine wpStill_nil ?_
      exact hK
    refine plan_nil ?_
    go_wp2_with fail
    (with_reducible refine (RN.out).mono ?_)
    rintro e w20 ⟨oa3, va3, oc3, vc3, he, ho3, hr3, k20⟩
    simp only at he ho3 hr3
    subst he
    have kr := chg_alloc (fun _ => False) w20 (.cells #[.slice oa3 od3.length oc3, .slice va3 s.rules.length vc3] 57)
    have RO := Lib.hid (obj_alloc_new w20 (.cells #[.slice oa3 od3.length oc3, .slice va3 s.rules.length vc3] 57))
    have KF := Lib.hid ((KE9.out.trans k20).trans kr)
    have KG := Lib.hid ((K9.out.trans k20).trans kr)
    have R3 := Lib.hid (own_chg hr3 kr (fun _ _ e => e))
    have SAME := Lib.hid (rules_same _ _ _ s.rules _ _ (rulesAt_own R3.out FEWS.out) (rulesAt_own (own_chg B1.out KF.out (fun _ _ e => e)) FEWS.out))
    obtain ⟨f0, f1, _, _⟩ := FACT.out _ KF.out
    have g0 := cell_of (o := 0) RO.out rfl
    have g1 := cell_of (o := 1) RO.out rfl
    have gl : ((od3.length : Int) == (s.order.length : Int)) = true := beq_iff_eq.2 (by have := HL3.out; omega)
    clear RN ho3 hr3 k20 kr
    go_wp2_with fail
    (with_reducible refine (SAME.out).mono ?_)
    rintro e w21 ⟨rfl, k21⟩
    have KH := Lib.hid (KG.out.trans k21)
    clear k21 f0 f1 g0 g1
    go_wp2
    go_ret
    exact ⟨rfl, KH.out⟩
end Go.Proofs.Ytdgmjablkdemmaa
