/-
  AcceptMore, walked.
-/
import Derived.Test.YtdgmjablkdemmaaUInvM
namespace Go.Proofs.Ytdgmjablkdemmaa
open Go.RowKit Go.Maps

section
variable {P : Program} {W : World} {ρ : Operand → Value} {o : Oper}
theorem run_mv {x : Operand} {v : Value} (ho : o.op = .move x ∨ o.op = .assign x) (h : ρ x = v) : (execOp ρ o).run P W = .ok (.value v) W := by
  rcases ho with ho | ho <;> (simp only [execOp, ho, h]; rfl)
theorem run_pk {x y z : Operand} {c : Bool} {b d : Value} (ho : o.op = .pick x y z) (hx : ρ x = .bool c) (hy : ρ y = b) (hz : ρ z = d) : (execOp ρ o).run P W = .ok (.value (if c = true then b else d)) W := by
  simp [execOp, ho, hx, hy, hz, asBool]
theorem run_ln {x : Operand} {ts : Array TypeId} {a : Option Addr} {n c : Nat} (ho : o.op = .call { callee := .builtin .len, args := #[x], argTypes := ts }) (hx : ρ x = .slice a n c) (hr : (Builtin.len_ ts o.type #[.slice a n c]).run P W = .ok (.int .i64 (n : Int)) W) : (execOp ρ o).run P W = .ok (.value (.int .i64 (n : Int))) W := by
  simp [execOp, ho, hx, resolve, invoke, builtin, go_sem, hr]
theorem run_bn {op : BinOp} {t t2 : TypeId} {x y : Operand} {a b v : Value} (ho : o.op = .binOp op t x y t2) (hx : ρ x = a) (hy : ρ y = b) (hr : (do eqGuard op t x y a b; binOp op t a b : Sem Value).run P W = .ok v W) : (execOp ρ o).run P W = .ok (.value v) W := by
  simp only [execOp, ho, hx, hy]
  rw [Sem.run_bind, hr]; rfl
end
theorem certsAt_nil (w : World) (G : Nat → Prop) : CertsAt w (.slice none 0 0) G [] := ⟨none, 0, rfl, by simp, fun j r h => by simp at h⟩
set_option maxHeartbeats 32000000 in
set_option maxRecDepth 100000 in
theorem more12_law (w : World) (v u z one : Value) (bnd : Int) (R M : List BRul) (P : List (BCert × Value)) (p : BCert × Value) (hv : RulesArg w v R) (hf : RulesFit R) (hm : RulesArg w u M) (hmf : RulesFit M) (hca : CertsArg w z P) (hcf : CertsFit P) (hone : CertArg w one p) :
    Calls Try.prog 9 #[v, u, z, one, .int .i64 bnd] w fun e w' => e = .returned (.bool true) ∧ Chg (fun _ => False) w w' := by
  obtain ⟨c, sv⟩ := p
  obtain ⟨rfl, sa, sc, hsv, hcc⟩ := hone
  simp only at hsv
  subst hsv
  have hu := hca.at_
  obtain ⟨ra, rc, rfl, hl0, _⟩ := hv.at_
  obtain ⟨rm, rmc, rfl, hl1, _⟩ := hm.at_
  have HV := Lib.hid hv
  have HF := Lib.hid hf
  have HM := Lib.hid hm
  have HU := Lib.hid hu
  have HCA := Lib.hid hca
  have HCF := Lib.hid (show P.length * 80 ≤ 140737488351232 from hcf)
  obtain ⟨la, cap, rfl, hu0, _⟩ := hu
  have HCC := Lib.hid hcc
  have HMF := Lib.hid hmf.2
  have HRF := Lib.hid hf.2
  have ka := chg_alloc (fun _ => False) w (.cells #[.int .i64 c.kind, .int .u16 (c.sg : Int), .string c.sp, .slice sa c.fr.length sc, .int .i64 c.f, .int .i64 c.t, .int .i64 c.n] 37)
  have BX := Lib.hid (obj_alloc_new w (.cells #[.int .i64 c.kind, .int .u16 (c.sg : Int), .string c.sp, .slice sa c.fr.length sc, .int .i64 c.f, .int .i64 c.t, .int .i64 c.n] 37))
  have KA := Lib.hid ka
  have AW := Lib.hid (awake12_any (w.alloc (.cells #[.int .i64 c.kind, .int .u16 (c.sg : Int), .string c.sp, .slice sa c.fr.length sc, .int .i64 c.f, .int .i64 c.t, .int .i64 c.n] 37)))
  unfold certV
  simp only
  clear hv hf hca hm hmf hcf hcc ka
  go_enter Try.func9, Try.ntmps9
  go_wp2_with fail
  generalize w.alloc (.cells #[.int .i64 c.kind, .int .u16 (c.sg : Int), .string c.sp, .slice sa c.fr.length sc, .int .i64 c.f, .int .i64 c.t, .int .i64 c.n] 37) = wa at *
  (with_reducible refine (AW.out).mono ?_)
  rintro e w1 ⟨rfl, k1⟩
  have K1 := Lib.hid (KA.out.trans k1)
  have BX1 := Lib.hid (k1.obj (fun e => e) BX.out)
  clear AW k1 KA BX
  go_wp2_with fail
  have KD := Lib.hid (K1.out.drew)
  have ELG : ∀ args w, (callFunc 25 args).run Try.prog w = .ok (.enter 25 args) w := enters_of Try.func25 (by kernel_rfl) rfl
  have LDB := Lib.hid (fun (W : World) (q : Chg (fun _ => False) w1.drew W) => (show (Instr.loadAt 37 (.pointer (some ⟨w.heap.size, 0, none⟩))).run Try.prog W = .ok (.agg #[.int .i64 c.kind, .int .u16 (c.sg : Int), .string c.sp, .slice sa c.fr.length sc, .int .i64 c.f, .int .i64 c.t, .int .i64 c.n]) W from by
    have ob := q.obj (fun e => e) ((chg_drew (fun _ => False) w1).obj (fun e => e) BX1.out)
    have d0 := cell_of (o := 0) ob rfl
    have d1 := cell_of (o := 1) ob rfl
    have d2 := cell_of (o := 2) ob rfl
    have d3 := cell_of (o := 3) ob rfl
    have d4 := cell_of (o := 4) ob rfl
    have d5 := cell_of (o := 5) ob rfl
    have d6 := cell_of (o := 6) ob rfl
    go_simp))
  have SETS := Lib.hid (HU.out.sets.one)
  have SETP := Lib.hid (show Sets7 w (· < w.heap.size) [(c, Value.slice sa c.fr.length sc)] from fun p hpp => by
    rw [List.mem_singleton] at hpp
    subst hpp
    exact ⟨sa, sc, rfl, HCC.out⟩)
  have SET1 := Lib.hid SETP.out.one
  have ADD := Lib.hid (fun W : World => (show (do eqGuard .add 3 (.tmp 34) (.tmp 36) (.int .i64 (R.length : Int)) (.int .i64 (M.length : Int)); binOp .add 3 (.int .i64 (R.length : Int)) (.int .i64 (M.length : Int)) : Sem Value).run Try.prog W = .ok (.int .i64 ((R.length : Int) + (M.length : Int))) W from by
    have h1 := HRF.out
    have h2 := HMF.out
    have hw : IntKind.i64.wrap ((R.length : Int) + (M.length : Int)) = (R.length : Int) + (M.length : Int) := by rw [IntKind.wrap_i64]; omega
    go_simp))
  have GTR := Lib.hid (fun W : World => (show (do eqGuard .gtr 3 (.tmp 37) (.const (.int .i64 24)) (.int .i64 ((R.length : Int) + (M.length : Int))) (.int .i64 24); binOp .gtr 3 (.int .i64 ((R.length : Int) + (M.length : Int))) (.int .i64 24) : Sem Value).run Try.prog W = .ok (.bool (decide (24 < (R.length : Int) + (M.length : Int)))) W from by
    go_simp))
  refine wp_region_inv (InvG w1.drew w1.drew.heap.size P (c, Value.slice sa c.fr.length sc) bnd (.slice ra R.length rc) (.slice rm M.length rmc) (.slice la P.length cap) R.length M.length (Fit12 R (certsOf (P ++ [(c, Value.slice sa c.fr.length sc)]))) (Fit12 M [])) (by kernel_rfl) (by kernel_rfl) (by kernel_rfl) (fun _ => undef) ?h0 ?step ?fin
  case h0 => exact ⟨Chg.refl _ _, (fun e => by cases e), (fun e => by cases e), (fun e => by cases e), (fun e => by cases e), (fun e => by cases e), (fun e => by cases e), (fun e => by cases e), (fun e => by cases e), (fun e => by cases e), (fun e => by cases e), (fun e => by cases e), (fun e => by cases e), (fun e => by cases e), (fun e => by cases e), (fun e => by cases e), (fun e => by cases e), (fun e => by cases e), (fun e => by cases e), (fun e => by cases e), (fun e => by cases e), (fun e => by cases e), (fun e => by cases e), (fun e => by cases e), (fun e => by cases e), (fun e => by cases e), (fun e => by cases e)⟩
  case step =>
    intro L V W i o' ho hL hdep h
    have hb : w1.drew.heap.size ≤ W.heap.size := h.k.size
    have hi : i < 21 := (Array.getElem?_eq_some_iff.1 ho).1
    rcases (by omega : i = 0 ∨ i = 1 ∨ i = 2 ∨ i = 3 ∨ i = 4 ∨ i = 5 ∨ i = 6 ∨ i = 7 ∨ i = 8 ∨ i = 9 ∨ i = 10 ∨ i = 11 ∨ i = 12 ∨ i = 13 ∨ i = 14 ∨ i = 15 ∨ i = 16 ∨ i = 17 ∨ i = 18 ∨ i = 19 ∨ i = 20) with rfl | rfl | rfl | rfl | rfl | rfl | rfl | rfl | rfl | rfl | rfl | rfl | rfl | rfl | rfl | rfl | rfl | rfl | rfl | rfl | rfl
    all_goals
      simp only [List.getElem?_toArray, List.getElem?_cons_succ, List.getElem?_cons_zero, Option.some.injEq] at ho
      subst ho
      simp [Region.binds] at hdep
    · refine wpList_valW rfl (.slice ra R.length rc) W (run_mv (.inl rfl) (canon_eval0 (Nat.le_of_ble_eq_true rfl) (by kernel_rfl))) ?_
      exact ⟨_, rfl, ⟨h.k, fun _ => rfl, h.r2, h.r4, h.r7, h.a1, h.a3, h.c5, h.ap1, h.ap3, h.b6, h.o6, h.o8, h.o9, h.o10, h.o11, h.o12, h.o13, h.o14, h.o15, h.o16, h.o17, h.o18, h.o19, h.o20, h.g, h.h⟩⟩
    · have h' := h.chg0 (chg_alloc (fun _ => False) W (.cells #[] 37))
      refine wpList_valW rfl (.slice (some ⟨W.heap.size, 0, none⟩) 0 0) (W.alloc (.cells #[] 37)) (by kernel_rfl) ?_
      exact ⟨_, rfl, ⟨h'.k, h'.r0, h'.r2, h'.r4, h'.r7, (fun _ _ => own_empty _ _ _ _ hb), h'.a3, h'.c5, (fun _ _ q8 q9 y hy e => by have := ((h.c5 q8 q9).2.lt y hy).2; have e2 : W.heap.size = y := Option.some.inj e; omega), h'.ap3, h'.b6, h'.o6, h'.o8, h'.o9, h'.o10, h'.o11, h'.o12, h'.o13, h'.o14, h'.o15, h'.o16, h'.o17, h'.o18, h'.o19, h'.o20, h'.g, h'.h⟩⟩
    · refine wpList_valW rfl (.slice la P.length cap) W (run_mv (.inl rfl) (canon_eval0 (Nat.le_of_ble_eq_true rfl) (by kernel_rfl))) ?_
      exact ⟨_, rfl, ⟨h.k, h.r0, fun _ => rfl, h.r4, h.r7, h.a1, h.a3, h.c5, h.ap1, h.ap3, h.b6, h.o6, h.o8, h.o9, h.o10, h.o11, h.o12, h.o13, h.o14, h.o15, h.o16, h.o17, h.o18, h.o19, h.o20, h.g, h.h⟩⟩
    · replace hdep : L 1 = true ∧ L 2 = true := (by simp [hdep])
      refine wpList_pushSF rfl (.tmp 20) (.tmp 21) 54 rfl 37 7 80 Try.underlying54 Try.elemCert w1.drew.heap.size (V 1) 0 [] (canon_eval (Nat.le_of_ble_eq_true rfl) (by kernel_rfl) hdep.1) (h.a1 hdep.1 hL) la P.length cap (pcellsL P) ((canon_eval (Nat.le_of_ble_eq_true rfl) (by kernel_rfl) hdep.2).trans (h.r2 hdep.2)) (pcellsL_length P) (certs_src (HU.out.chg (KD.out.trans h.k) (fun _ _ e => e))) (fun e => HCA.out.nil _ _ (by rw [e])) SETS.out (by have := HCF.out; omega) (by have := HCF.out; unfold maxLen; omega) hb ?_
      intro v' w' ho' hg' hsn
      have kc : Chg (fun j => (V 1).ownBlock = some j) W w' := Chg.of_grown hg'
      rw [Nat.zero_add] at ho'
      refine ⟨v', rfl, ⟨h.k.next kc (fun j hj e => by have := ((h.a1 hdep.1 hL).lt j e).1; omega), h.r0, h.r2, h.r4, h.r7, (fun _ q => by cases q), (fun _ _ => ho'), (fun q8 q9 => ⟨(h.c5 q8 q9).1, own_chg (h.c5 q8 q9).2 kc (fun j hj e => h.ap1 hdep.1 hL q8 q9 j hj e)⟩), (fun _ q => by cases q), (fun _ q8 q9 y hy e => hsn.elim (fun q => h.ap1 hdep.1 hL q8 q9 y hy (q ▸ e)) (fun q => by have := q y e; have := ((h.c5 q8 q9).2.lt y hy).2; omega)), (fun q => by have q9 := (h.o6 q).1; rw [q9] at hL; cases hL), (fun q => ⟨rfl, (h.o6 q).2⟩), h.o8, h.o9, h.o10, h.o11, h.o12, h.o13, h.o14, h.o15, h.o16, h.o17, h.o18, h.o19, h.o20, h.g, h.h⟩⟩
    · refine wpList_valW rfl (.agg #[.int .i64 c.kind, .int .u16 (c.sg : Int), .string c.sp, .slice sa c.fr.length sc, .int .i64 c.f, .int .i64 c.t, .int .i64 c.n]) W (run_ld rfl (canon_eval0 (Nat.le_of_ble_eq_true rfl) (by kernel_rfl)) (LDB.out W h.k)) ?_
      exact ⟨_, rfl, ⟨h.k, h.r0, h.r2, fun _ => rfl, h.r7, h.a1, h.a3, h.c5, h.ap1, h.ap3, h.b6, h.o6, h.o8, h.o9, h.o10, h.o11, h.o12, h.o13, h.o14, h.o15, h.o16, h.o17, h.o18, h.o19, h.o20, h.g, h.h⟩⟩
    · have h' := h.chg0 (chg_alloc (fun _ => False) W (.cells #[.int .i64 c.kind, .int .u16 (c.sg : Int), .string c.sp, .slice sa c.fr.length sc, .int .i64 c.f, .int .i64 c.t, .int .i64 c.n] 37))
      refine wpList_valW rfl (.slice (some ⟨W.heap.size, 0, none⟩) 1 1) (W.alloc (.cells #[.int .i64 c.kind, .int .u16 (c.sg : Int), .string c.sp, .slice sa c.fr.length sc, .int .i64 c.f, .int .i64 c.t, .int .i64 c.n] 37)) (run_bs1 rfl ((canon_eval (Nat.le_of_ble_eq_true rfl) (by kernel_rfl) hdep).trans (h.r4 hdep)) (by kernel_rfl)) ?_
      exact ⟨_, rfl, ⟨h'.k, h'.r0, h'.r2, h'.r4, h'.r7, h'.a1, h'.a3, (fun _ _ => ⟨⟨_, rfl⟩, own_base (own_lit (xs := pcellsL [(c, Value.slice sa c.fr.length sc)]) rfl (by decide)) hb⟩), (fun q1 q3 _ _ y hy e => by have := ((h.a1 q1 q3).lt y e).2; have e2 : W.heap.size = y := Option.some.inj hy; omega), (fun q3 _ q9 y hy e => by have := ((h.a3 q3 q9).lt y e).2; have e2 : W.heap.size = y := Option.some.inj hy; omega), h'.b6, (fun q => ⟨(h.o6 q).1, rfl⟩), h'.o8, h'.o9, h'.o10, h'.o11, h'.o12, h'.o13, h'.o14, h'.o15, h'.o16, h'.o17, h'.o18, h'.o19, h'.o20, h'.g, h'.h⟩⟩
    · replace hdep : L 3 = true ∧ L 5 = true := (by simp [hdep])
      obtain ⟨⟨gc, e8⟩, oc8⟩ := h.c5 hdep.2 hL
      have oc9 := oc8
      rw [e8] at oc9
      refine wpList_pushSF rfl (.tmp 22) (.tmp 24) 54 rfl 37 7 80 Try.underlying54 Try.elemCert w1.drew.heap.size (V 3) P.length (pcellsL P) (canon_eval (Nat.le_of_ble_eq_true rfl) (by kernel_rfl) hdep.1) (h.a3 hdep.1 hL) (some ⟨gc, 0, none⟩) 1 1 (pcellsL [(c, Value.slice sa c.fr.length sc)]) ((canon_eval (Nat.le_of_ble_eq_true rfl) (by kernel_rfl) hdep.2).trans e8) rfl (fun j u hj => ⟨gc, 0, rfl, by rw [Nat.zero_add, oc9.cellAt (j := j) (by have := (List.getElem?_eq_some_iff.1 hj).1; rw [pcellsL_length] at this; exact this)]; exact hj⟩) (by intro e; cases e) SET1.out (by have := HCF.out; omega) (by have := HCF.out; unfold maxLen; omega) hb ?_
      intro v' w' ho' hg' hsn
      have kc : Chg (fun j => (V 3).ownBlock = some j) W w' := Chg.of_grown hg'
      refine ⟨v', rfl, ⟨h.k.next kc (fun j hj e => by have := ((h.a3 hdep.1 hL).lt j e).1; omega), h.r0, h.r2, h.r4, h.r7, (fun _ q => by have q2 : L 3 = false := q; rw [hdep.1] at q2; cases q2), (fun _ q => by cases q), (fun _ q => by cases q), (fun _ _ _ q => by cases q), (fun _ _ q => by cases q), (fun _ => by rw [pcellsL_append, List.length_append]; exact ho'), (fun _ => hdep), (fun _ => rfl), h.o9, h.o10, h.o11, h.o12, h.o13, h.o14, h.o15, h.o16, h.o17, h.o18, h.o19, h.o20, h.g, h.h⟩⟩
    · refine wpList_valW rfl (.int .i64 bnd) W (run_mv (.inl rfl) (canon_eval0 (Nat.le_of_ble_eq_true rfl) (by kernel_rfl))) ?_
      exact ⟨_, rfl, ⟨h.k, h.r0, h.r2, h.r4, fun _ => rfl, h.a1, h.a3, h.c5, h.ap1, h.ap3, h.b6, h.o6, h.o8, h.o9, h.o10, h.o11, h.o12, h.o13, h.o14, h.o15, h.o16, h.o17, h.o18, h.o19, h.o20, h.g, h.h⟩⟩
    · replace hdep : L 0 = true ∧ L 6 = true ∧ L 7 = true := (by simp [hdep])
      refine wpList_calls rfl 25 #[.slice ra R.length rc, V 6, .int .i64 bnd] (run_cl3 rfl rfl ((canon_eval (Nat.le_of_ble_eq_true rfl) (by kernel_rfl) hdep.1).trans (h.r0 hdep.1)) (canon_eval (Nat.le_of_ble_eq_true rfl) (by kernel_rfl) hdep.2.1) ((canon_eval (Nat.le_of_ble_eq_true rfl) (by kernel_rfl) hdep.2.2).trans (h.r7 hdep.2.2)) ELG) (large12_any W ra R rc (V 6) (P ++ [(c, Value.slice sa c.fr.length sc)]) bnd _ _ (HV.out.at_.chg (KD.out.trans h.k) (fun _ _ e => e)) (certsAt_own (h.b6 hdep.2.1) ((HU.out.sets.append SETP.out).chg (KD.out.trans h.k) (fun _ _ e => e)))) ?_
      rintro e w' ⟨b1, he, rfl, hb1⟩
      refine ⟨_, he, _, rfl, ⟨h.k, h.r0, h.r2, h.r4, h.r7, h.a1, h.a3, h.c5, h.ap1, h.ap3, h.b6, h.o6, (fun _ => hdep.2.1), (fun _ => rfl), h.o10, h.o11, h.o12, h.o13, h.o14, h.o15, h.o16, h.o17, h.o18, h.o19, h.o20, (fun _ => ⟨b1, rfl, hb1, (fun q => by have q9 := h.o9 q; rw [q9] at hL; cases hL), (fun q => by have q9 := h.o9 (h.o10 q); rw [q9] at hL; cases hL)⟩), (fun q => by have q9 := h.o9 (h.o10 (h.o11 q)); rw [q9] at hL; cases hL)⟩⟩
    · replace hdep : L 8 = true := (by simp [hdep])
      obtain ⟨b1, e1, f1, _, q10⟩ := h.g hdep
      refine wpList_valW rfl (.bool b1) W (run_mv (.inl rfl) ((canon_eval (Nat.le_of_ble_eq_true rfl) (by kernel_rfl) hdep).trans e1)) ?_
      exact ⟨_, rfl, ⟨h.k, h.r0, h.r2, h.r4, h.r7, h.a1, h.a3, h.c5, h.ap1, h.ap3, h.b6, h.o6, h.o8, (fun _ => hdep), (fun _ => rfl), h.o11, h.o12, h.o13, h.o14, h.o15, h.o16, h.o17, h.o18, h.o19, h.o20, (fun _ => ⟨b1, e1, f1, (fun _ => rfl), q10⟩), (fun q => by have q9 := h.o10 (h.o11 q); rw [q9] at hL; cases hL)⟩⟩
    · replace hdep : L 9 = true := (by simp [hdep])
      obtain ⟨b1, e1, f1, q9, _⟩ := h.g (h.o9 hdep)
      have fin : ∀ v10, (b1 = false → v10 = .slice rm M.length rmc) → InvG w1.drew w1.drew.heap.size P (c, Value.slice sa c.fr.length sc) bnd (.slice ra R.length rc) (.slice rm M.length rmc) (.slice la P.length cap) R.length M.length (Fit12 R (certsOf (P ++ [(c, Value.slice sa c.fr.length sc)]))) (Fit12 M []) (upd L 10 true) (upd V 10 v10) W := fun v10 hv10 => ⟨h.k, h.r0, h.r2, h.r4, h.r7, h.a1, h.a3, h.c5, h.ap1, h.ap3, h.b6, h.o6, h.o8, h.o9, (fun _ => hdep), (fun _ => rfl), h.o12, h.o13, h.o14, h.o15, h.o16, h.o17, h.o18, h.o19, h.o20, (fun _ => ⟨b1, e1, f1, q9, (fun _ => hv10)⟩), (fun q => by have q9 := h.o11 q; rw [q9] at hL; cases hL)⟩
      cases b1 with
      | true =>
        refine wpList_skip (wanted_no rfl (canon_yield (j := 9) (d := 28) (by kernel_rfl) (Nat.le_of_ble_eq_true rfl) (by kernel_rfl) hdep (q9 hdep)) (by decide)) ?_
        exact ⟨undef, rfl, fin undef (fun q => by cases q)⟩
      | false =>
        refine wpList_valG (wanted_yes rfl (canon_yield (j := 9) (d := 28) (by kernel_rfl) (Nat.le_of_ble_eq_true rfl) (by kernel_rfl) hdep (q9 hdep))) (.slice rm M.length rmc) W (run_mv (.inl rfl) (canon_eval0 (Nat.le_of_ble_eq_true rfl) (by kernel_rfl))) ?_
        exact ⟨_, rfl, fin _ (fun _ => rfl)⟩
    · replace hdep : L 10 = true := (by simp [hdep])
      obtain ⟨b1, e1, f1, q9, q10⟩ := h.g (h.o9 (h.o10 hdep))
      have h9 := q9 (h.o10 hdep)
      cases b1 with
      | true =>
        refine wpList_skip (wanted_no rfl (canon_yield (j := 9) (d := 28) (by kernel_rfl) (Nat.le_of_ble_eq_true rfl) (by kernel_rfl) (h.o10 hdep) h9) (by decide)) ?_
        exact ⟨undef, rfl, ⟨h.k, h.r0, h.r2, h.r4, h.r7, h.a1, h.a3, h.c5, h.ap1, h.ap3, h.b6, h.o6, h.o8, h.o9, h.o10, (fun _ => hdep), (fun _ => rfl), h.o13, h.o14, h.o15, h.o16, h.o17, h.o18, h.o19, h.o20, h.g, (fun _ => ⟨true, true, h9, (fun q => by cases q), (fun q => by cases q), (fun q => by have q9 := h.o12 q; rw [q9] at hL; cases hL), (fun q => by have q9 := h.o12 (h.o13 q); rw [q9] at hL; cases hL), (fun q => by have q9 := h.o12 (h.o13 (h.o14 q)); rw [q9] at hL; cases hL), (fun q => by have q9 := h.o12 (h.o13 (h.o14 (h.o15 q))); rw [q9] at hL; cases hL), (fun q => by have q9 := h.o12 (h.o13 (h.o16 q)); rw [q9] at hL; cases hL), (fun q => by have q9 := h.o12 (h.o13 (h.o16 (h.o17 q))); rw [q9] at hL; cases hL), (fun q => by have q9 := h.o12 (h.o13 (h.o14 (h.o15 (h.o18 q).1))); rw [q9] at hL; cases hL), (fun q => by have q9 := h.o12 (h.o13 (h.o14 (h.o15 (h.o18 (h.o19 q)).1))); rw [q9] at hL; cases hL), (fun q => by have q9 := h.o12 (h.o13 (h.o14 (h.o15 (h.o18 (h.o19 (h.o20 q))).1))); rw [q9] at hL; cases hL)⟩)⟩⟩
      | false =>
        refine wpList_callsG (wanted_yes rfl (canon_yield (j := 9) (d := 28) (by kernel_rfl) (Nat.le_of_ble_eq_true rfl) (by kernel_rfl) (h.o10 hdep) h9)) 25 #[.slice rm M.length rmc, .slice none 0 0, .int .i64 1] (run_cl3 rfl rfl ((canon_eval (Nat.le_of_ble_eq_true rfl) (by kernel_rfl) hdep).trans (q10 hdep rfl)) rfl rfl ELG) (large12_any W rm M rmc (.slice none 0 0) [] 1 _ (fun _ => True) (HM.out.at_.chg (KD.out.trans h.k) (fun _ _ e => e)) (certsAt_nil W _)) ?_
        rintro e w' ⟨b2, he, rfl, hb2⟩
        exact ⟨_, he, _, rfl, ⟨h.k, h.r0, h.r2, h.r4, h.r7, h.a1, h.a3, h.c5, h.ap1, h.ap3, h.b6, h.o6, h.o8, h.o9, h.o10, (fun _ => hdep), (fun _ => rfl), h.o13, h.o14, h.o15, h.o16, h.o17, h.o18, h.o19, h.o20, h.g, (fun _ => ⟨false, b2, h9, (fun _ => rfl), (fun q => ⟨f1 rfl, hb2 q⟩), (fun q => by have q9 := h.o12 q; rw [q9] at hL; cases hL), (fun q => by have q9 := h.o12 (h.o13 q); rw [q9] at hL; cases hL), (fun q => by have q9 := h.o12 (h.o13 (h.o14 q)); rw [q9] at hL; cases hL), (fun q => by have q9 := h.o12 (h.o13 (h.o14 (h.o15 q))); rw [q9] at hL; cases hL), (fun q => by have q9 := h.o12 (h.o13 (h.o16 q)); rw [q9] at hL; cases hL), (fun q => by have q9 := h.o12 (h.o13 (h.o16 (h.o17 q))); rw [q9] at hL; cases hL), (fun q => by have q9 := h.o12 (h.o13 (h.o14 (h.o15 (h.o18 q).1))); rw [q9] at hL; cases hL), (fun q => by have q9 := h.o12 (h.o13 (h.o14 (h.o15 (h.o18 (h.o19 q)).1))); rw [q9] at hL; cases hL), (fun q => by have q9 := h.o12 (h.o13 (h.o14 (h.o15 (h.o18 (h.o19 (h.o20 q))).1))); rw [q9] at hL; cases hL)⟩)⟩⟩
    · replace hdep : L 11 = true := (by simp [hdep])
      obtain ⟨b1, b2, e9, e11, ff, q12, q13, q14, q15, q16, q17, q18, q19, q20⟩ := h.h hdep
      have hv12 : (if b1 = true then Value.bool true else V 11) = .bool (b1 || b2) := by cases b1 with | true => rfl | false => exact e11 rfl
      refine wpList_valW rfl (if b1 = true then Value.bool true else V 11) W (run_pk rfl ((canon_eval (Nat.le_of_ble_eq_true rfl) (by kernel_rfl) (h.o10 (h.o11 hdep))).trans e9) rfl (canon_eval (Nat.le_of_ble_eq_true rfl) (by kernel_rfl) hdep)) ?_
      exact ⟨_, rfl, ⟨h.k, h.r0, h.r2, h.r4, h.r7, h.a1, h.a3, h.c5, h.ap1, h.ap3, h.b6, h.o6, h.o8, h.o9, h.o10, h.o11, (fun _ => hdep), (fun _ => rfl), h.o14, h.o15, h.o16, h.o17, h.o18, h.o19, h.o20, h.g, (fun _ => ⟨b1, b2, e9, e11, ff, (fun _ => hv12), q13, q14, q15, q16, q17, q18, q19, q20⟩)⟩⟩
    · replace hdep : L 12 = true := (by simp [hdep])
      obtain ⟨b1, b2, e9, e11, ff, q12, q13, q14, q15, q16, q17, q18, q19, q20⟩ := h.h (h.o12 hdep)
      refine wpList_valW rfl (.bool (b1 || b2)) W (run_mv (.inl rfl) ((canon_eval (Nat.le_of_ble_eq_true rfl) (by kernel_rfl) hdep).trans (q12 hdep))) ?_
      exact ⟨_, rfl, ⟨h.k, h.r0, h.r2, h.r4, h.r7, h.a1, h.a3, h.c5, h.ap1, h.ap3, h.b6, h.o6, h.o8, h.o9, h.o10, h.o11, h.o12, (fun _ => hdep), (fun _ => rfl), h.o15, (fun _ => rfl), h.o17, h.o18, h.o19, h.o20, h.g, (fun _ => ⟨b1, b2, e9, e11, ff, q12, (fun _ => rfl), q14, q15, q16, q17, q18, q19, q20⟩)⟩⟩
    · replace hdep : L 13 = true := (by simp [hdep])
      obtain ⟨b1, b2, e9, e11, ff, q12, q13, q14, q15, q16, q17, q18, q19, q20⟩ := h.h (h.o12 (h.o13 hdep))
      have h13 := q13 hdep
      cases hbb : (b1 || b2) with
      | true =>
        rw [hbb] at h13
        refine wpList_skip (wanted_no rfl (canon_yield (j := 13) (d := 32) (by kernel_rfl) (Nat.le_of_ble_eq_true rfl) (by kernel_rfl) hdep h13) (by decide)) ?_
        exact ⟨undef, rfl, ⟨h.k, h.r0, h.r2, h.r4, h.r7, h.a1, h.a3, h.c5, h.ap1, h.ap3, h.b6, h.o6, h.o8, h.o9, h.o10, h.o11, h.o12, h.o13, (fun _ => hdep), (fun _ => rfl), h.o16, h.o17, h.o18, h.o19, h.o20, h.g, (fun _ => ⟨b1, b2, e9, e11, ff, q12, q13, (fun _ q => by rw [hbb] at q; cases q), q15, q16, q17, q18, q19, q20⟩)⟩⟩
      | false =>
        rw [hbb] at h13
        refine wpList_valG (wanted_yes rfl (canon_yield (j := 13) (d := 32) (by kernel_rfl) (Nat.le_of_ble_eq_true rfl) (by kernel_rfl) hdep h13)) (.slice ra R.length rc) W (run_mv (.inl rfl) (canon_eval0 (Nat.le_of_ble_eq_true rfl) (by kernel_rfl))) ?_
        exact ⟨_, rfl, ⟨h.k, h.r0, h.r2, h.r4, h.r7, h.a1, h.a3, h.c5, h.ap1, h.ap3, h.b6, h.o6, h.o8, h.o9, h.o10, h.o11, h.o12, h.o13, (fun _ => hdep), (fun _ => rfl), h.o16, h.o17, h.o18, h.o19, h.o20, h.g, (fun _ => ⟨b1, b2, e9, e11, ff, q12, q13, (fun _ _ => rfl), q15, q16, q17, q18, q19, q20⟩)⟩⟩
    · replace hdep : L 14 = true := (by simp [hdep])
      obtain ⟨b1, b2, e9, e11, ff, q12, q13, q14, q15, q16, q17, q18, q19, q20⟩ := h.h (h.o12 (h.o13 (h.o14 hdep)))
      have h13 := q13 (h.o14 hdep)
      cases hbb : (b1 || b2) with
      | true =>
        rw [hbb] at h13
        refine wpList_skip (wanted_no rfl (canon_yield (j := 13) (d := 32) (by kernel_rfl) (Nat.le_of_ble_eq_true rfl) (by kernel_rfl) (h.o14 hdep) h13) (by decide)) ?_
        exact ⟨undef, rfl, ⟨h.k, h.r0, h.r2, h.r4, h.r7, h.a1, h.a3, h.c5, h.ap1, h.ap3, h.b6, h.o6, h.o8, h.o9, h.o10, h.o11, h.o12, h.o13, h.o14, (fun _ => hdep), h.o16, h.o17, (fun q => ⟨rfl, (h.o18 q).2⟩), h.o19, h.o20, h.g, (fun _ => ⟨b1, b2, e9, e11, ff, q12, q13, q14, (fun _ q => by rw [hbb] at q; cases q), q16, q17, q18, q19, q20⟩)⟩⟩
      | false =>
        rw [hbb] at h13
        refine wpList_valG (wanted_yes rfl (canon_yield (j := 13) (d := 32) (by kernel_rfl) (Nat.le_of_ble_eq_true rfl) (by kernel_rfl) (h.o14 hdep) h13)) (.int .i64 (R.length : Int)) W (run_ln rfl ((canon_eval (Nat.le_of_ble_eq_true rfl) (by kernel_rfl) hdep).trans (q14 hdep hbb)) (by kernel_rfl)) ?_
        exact ⟨_, rfl, ⟨h.k, h.r0, h.r2, h.r4, h.r7, h.a1, h.a3, h.c5, h.ap1, h.ap3, h.b6, h.o6, h.o8, h.o9, h.o10, h.o11, h.o12, h.o13, h.o14, (fun _ => hdep), h.o16, h.o17, (fun q => ⟨rfl, (h.o18 q).2⟩), h.o19, h.o20, h.g, (fun _ => ⟨b1, b2, e9, e11, ff, q12, q13, q14, (fun _ _ => rfl), q16, q17, q18, q19, q20⟩)⟩⟩
    · replace hdep : L 13 = true := (by simp [hdep])
      obtain ⟨b1, b2, e9, e11, ff, q12, q13, q14, q15, q16, q17, q18, q19, q20⟩ := h.h (h.o12 (h.o13 hdep))
      have h13 := q13 hdep
      cases hbb : (b1 || b2) with
      | true =>
        rw [hbb] at h13
        refine wpList_skip (wanted_no rfl (canon_yield (j := 13) (d := 32) (by kernel_rfl) (Nat.le_of_ble_eq_true rfl) (by kernel_rfl) hdep h13) (by decide)) ?_
        exact ⟨undef, rfl, ⟨h.k, h.r0, h.r2, h.r4, h.r7, h.a1, h.a3, h.c5, h.ap1, h.ap3, h.b6, h.o6, h.o8, h.o9, h.o10, h.o11, h.o12, h.o13, h.o14, h.o15, (fun _ => hdep), (fun _ => rfl), h.o18, h.o19, h.o20, h.g, (fun _ => ⟨b1, b2, e9, e11, ff, q12, q13, q14, q15, (fun _ q => by rw [hbb] at q; cases q), q17, q18, q19, q20⟩)⟩⟩
      | false =>
        rw [hbb] at h13
        refine wpList_valG (wanted_yes rfl (canon_yield (j := 13) (d := 32) (by kernel_rfl) (Nat.le_of_ble_eq_true rfl) (by kernel_rfl) hdep h13)) (.slice rm M.length rmc) W (run_mv (.inl rfl) (canon_eval0 (Nat.le_of_ble_eq_true rfl) (by kernel_rfl))) ?_
        exact ⟨_, rfl, ⟨h.k, h.r0, h.r2, h.r4, h.r7, h.a1, h.a3, h.c5, h.ap1, h.ap3, h.b6, h.o6, h.o8, h.o9, h.o10, h.o11, h.o12, h.o13, h.o14, h.o15, (fun _ => hdep), (fun _ => rfl), h.o18, h.o19, h.o20, h.g, (fun _ => ⟨b1, b2, e9, e11, ff, q12, q13, q14, q15, (fun _ _ => rfl), q17, q18, q19, q20⟩)⟩⟩
    · replace hdep : L 16 = true := (by simp [hdep])
      obtain ⟨b1, b2, e9, e11, ff, q12, q13, q14, q15, q16, q17, q18, q19, q20⟩ := h.h (h.o12 (h.o13 (h.o16 hdep)))
      have h13 := q13 (h.o16 hdep)
      cases hbb : (b1 || b2) with
      | true =>
        rw [hbb] at h13
        refine wpList_skip (wanted_no rfl (canon_yield (j := 13) (d := 32) (by kernel_rfl) (Nat.le_of_ble_eq_true rfl) (by kernel_rfl) (h.o16 hdep) h13) (by decide)) ?_
        exact ⟨undef, rfl, ⟨h.k, h.r0, h.r2, h.r4, h.r7, h.a1, h.a3, h.c5, h.ap1, h.ap3, h.b6, h.o6, h.o8, h.o9, h.o10, h.o11, h.o12, h.o13, h.o14, h.o15, h.o16, (fun _ => hdep), (fun q => ⟨(h.o18 q).1, rfl⟩), h.o19, h.o20, h.g, (fun _ => ⟨b1, b2, e9, e11, ff, q12, q13, q14, q15, q16, (fun _ q => by rw [hbb] at q; cases q), q18, q19, q20⟩)⟩⟩
      | false =>
        rw [hbb] at h13
        refine wpList_valG (wanted_yes rfl (canon_yield (j := 13) (d := 32) (by kernel_rfl) (Nat.le_of_ble_eq_true rfl) (by kernel_rfl) (h.o16 hdep) h13)) (.int .i64 (M.length : Int)) W (run_ln rfl ((canon_eval (Nat.le_of_ble_eq_true rfl) (by kernel_rfl) hdep).trans (q16 hdep hbb)) (by kernel_rfl)) ?_
        exact ⟨_, rfl, ⟨h.k, h.r0, h.r2, h.r4, h.r7, h.a1, h.a3, h.c5, h.ap1, h.ap3, h.b6, h.o6, h.o8, h.o9, h.o10, h.o11, h.o12, h.o13, h.o14, h.o15, h.o16, (fun _ => hdep), (fun q => ⟨(h.o18 q).1, rfl⟩), h.o19, h.o20, h.g, (fun _ => ⟨b1, b2, e9, e11, ff, q12, q13, q14, q15, q16, (fun _ _ => rfl), q18, q19, q20⟩)⟩⟩
    · replace hdep : L 15 = true ∧ L 17 = true := (by simp [hdep])
      obtain ⟨b1, b2, e9, e11, ff, q12, q13, q14, q15, q16, q17, q18, q19, q20⟩ := h.h (h.o12 (h.o13 (h.o14 (h.o15 hdep.1))))
      have h13 := q13 (h.o14 (h.o15 hdep.1))
      cases hbb : (b1 || b2) with
      | true =>
        rw [hbb] at h13
        refine wpList_skip (wanted_no rfl (canon_yield (j := 13) (d := 32) (by kernel_rfl) (Nat.le_of_ble_eq_true rfl) (by kernel_rfl) (h.o14 (h.o15 hdep.1)) h13) (by decide)) ?_
        exact ⟨undef, rfl, ⟨h.k, h.r0, h.r2, h.r4, h.r7, h.a1, h.a3, h.c5, h.ap1, h.ap3, h.b6, h.o6, h.o8, h.o9, h.o10, h.o11, h.o12, h.o13, h.o14, h.o15, h.o16, h.o17, (fun _ => hdep), (fun _ => rfl), h.o20, h.g, (fun _ => ⟨b1, b2, e9, e11, ff, q12, q13, q14, q15, q16, q17, (fun _ q => by rw [hbb] at q; cases q), q19, q20⟩)⟩⟩
      | false =>
        rw [hbb] at h13
        refine wpList_valG (wanted_yes rfl (canon_yield (j := 13) (d := 32) (by kernel_rfl) (Nat.le_of_ble_eq_true rfl) (by kernel_rfl) (h.o14 (h.o15 hdep.1)) h13)) (.int .i64 ((R.length : Int) + (M.length : Int))) W (run_bn rfl ((canon_eval (Nat.le_of_ble_eq_true rfl) (by kernel_rfl) hdep.1).trans (q15 hdep.1 hbb)) ((canon_eval (Nat.le_of_ble_eq_true rfl) (by kernel_rfl) hdep.2).trans (q17 hdep.2 hbb)) (ADD.out W)) ?_
        exact ⟨_, rfl, ⟨h.k, h.r0, h.r2, h.r4, h.r7, h.a1, h.a3, h.c5, h.ap1, h.ap3, h.b6, h.o6, h.o8, h.o9, h.o10, h.o11, h.o12, h.o13, h.o14, h.o15, h.o16, h.o17, (fun _ => hdep), (fun _ => rfl), h.o20, h.g, (fun _ => ⟨b1, b2, e9, e11, ff, q12, q13, q14, q15, q16, q17, (fun _ _ => rfl), q19, q20⟩)⟩⟩
    · replace hdep : L 18 = true := (by simp [hdep])
      obtain ⟨b1, b2, e9, e11, ff, q12, q13, q14, q15, q16, q17, q18, q19, q20⟩ := h.h (h.o12 (h.o13 (h.o14 (h.o15 (h.o18 hdep).1))))
      have h13 := q13 (h.o14 (h.o15 (h.o18 hdep).1))
      cases hbb : (b1 || b2) with
      | true =>
        rw [hbb] at h13
        refine wpList_skip (wanted_no rfl (canon_yield (j := 13) (d := 32) (by kernel_rfl) (Nat.le_of_ble_eq_true rfl) (by kernel_rfl) (h.o14 (h.o15 (h.o18 hdep).1)) h13) (by decide)) ?_
        exact ⟨undef, rfl, ⟨h.k, h.r0, h.r2, h.r4, h.r7, h.a1, h.a3, h.c5, h.ap1, h.ap3, h.b6, h.o6, h.o8, h.o9, h.o10, h.o11, h.o12, h.o13, h.o14, h.o15, h.o16, h.o17, h.o18, (fun _ => hdep), (fun _ => rfl), h.g, (fun _ => ⟨b1, b2, e9, e11, ff, q12, q13, q14, q15, q16, q17, q18, (fun _ q => by rw [hbb] at q; cases q), q20⟩)⟩⟩
      | false =>
        rw [hbb] at h13
        refine wpList_valG (wanted_yes rfl (canon_yield (j := 13) (d := 32) (by kernel_rfl) (Nat.le_of_ble_eq_true rfl) (by kernel_rfl) (h.o14 (h.o15 (h.o18 hdep).1)) h13)) (.bool (decide (24 < (R.length : Int) + (M.length : Int)))) W (run_bn rfl ((canon_eval (Nat.le_of_ble_eq_true rfl) (by kernel_rfl) hdep).trans (q18 hdep hbb)) rfl (GTR.out W)) ?_
        exact ⟨_, rfl, ⟨h.k, h.r0, h.r2, h.r4, h.r7, h.a1, h.a3, h.c5, h.ap1, h.ap3, h.b6, h.o6, h.o8, h.o9, h.o10, h.o11, h.o12, h.o13, h.o14, h.o15, h.o16, h.o17, h.o18, (fun _ => hdep), (fun _ => rfl), h.g, (fun _ => ⟨b1, b2, e9, e11, ff, q12, q13, q14, q15, q16, q17, q18, (fun _ _ => rfl), q20⟩)⟩⟩
    · replace hdep : L 19 = true := (by simp [hdep])
      obtain ⟨b1, b2, e9, e11, ff, q12, q13, q14, q15, q16, q17, q18, q19, q20⟩ := h.h (h.o12 (h.o13 (h.o14 (h.o15 (h.o18 (h.o19 hdep)).1))))
      have h13 := q13 (h.o14 (h.o15 (h.o18 (h.o19 hdep)).1))
      refine wpList_valW rfl (if (b1 || b2) = true then Value.bool true else V 19) W (run_pk rfl ((canon_eval (Nat.le_of_ble_eq_true rfl) (by kernel_rfl) (h.o14 (h.o15 (h.o18 (h.o19 hdep)).1))).trans h13) rfl (canon_eval (Nat.le_of_ble_eq_true rfl) (by kernel_rfl) hdep)) ?_
      refine ⟨_, rfl, ⟨h.k, h.r0, h.r2, h.r4, h.r7, h.a1, h.a3, h.c5, h.ap1, h.ap3, h.b6, h.o6, h.o8, h.o9, h.o10, h.o11, h.o12, h.o13, h.o14, h.o15, h.o16, h.o17, h.o18, h.o19, (fun _ => hdep), h.g, (fun _ => ⟨b1, b2, e9, e11, ff, q12, q13, q14, q15, q16, q17, q18, q19, (fun _ => ?_)⟩)⟩⟩
      cases hbb : (b1 || b2) with
      | true => exact ⟨true, rfl, fun q => by cases q⟩
      | false =>
        have h19 := q19 hdep hbb
        obtain ⟨g1, g2⟩ := ff hbb
        exact ⟨_, h19, fun q => ⟨g1, g2, by have := of_decide_eq_false q; omega⟩⟩
  case fin =>
    intro L V W hall h
    obtain ⟨_, _, _, _, _, _, _, _, _, _, _, _, _, q20⟩ := h.h (hall 11 (Nat.le_of_ble_eq_true rfl))
    obtain ⟨x, e20, hx⟩ := q20 (hall 20 (Nat.le_of_ble_eq_true rfl))
    have K2 := Lib.hid (KD.out.trans h.k)
    have BX2 := Lib.hid (h.k.obj (fun e => e) ((chg_drew (fun _ => False) w1).obj (fun e => e) BX1.out))
    have HX := Lib.hid hx
    rw [canon_all (by kernel_rfl) hall]
    clear q20 h hall hx LDB ADD GTR ELG KD K1 BX1 HRF HMF
    simp only [putAll, dstOf, List.size_toArray, List.length_cons, List.length_nil, Nat.zero_add, Nat.reduceAdd, List.getElem?_toArray, List.getElem?_cons_succ, List.getElem?_cons_zero, Option.bind_some]
    rw [e20]
    simp only [Act.put, List.setIfInBounds_toArray, List.set_cons_succ, List.set_cons_zero]
    generalize V 0 = y0
    generalize V 1 = y1
    generalize V 2 = y2
    generalize V 3 = y3
    generalize V 4 = y4
    generalize V 5 = y5
    generalize V 6 = y6
    generalize V 7 = y7
    generalize V 8 = y8
    generalize V 9 = y9
    generalize V 10 = y10
    generalize V 11 = y11
    generalize V 12 = y12
    generalize V 13 = y13
    generalize V 14 = y14
    generalize V 15 = y15
    generalize V 16 = y16
    generalize V 17 = y17
    generalize V 18 = y18
    generalize V 19 = y19
    clear e20
    cases x with
    | true =>
      go_wp2
      go_ret
      exact ⟨rfl, K2.out⟩
    | false =>
    obtain ⟨hF1, hF2, hsum⟩ := HX.out rfl
    have hpl : P.length ≤ 7 := by have := hF1.1; rw [certsOf_length, List.length_append, List.length_singleton] at this; omega
    have hR := hF1.small' (by omega)
    have hM := hF2.small' (by omega)
    have FITP := Lib.hid (show Fit12 R (certsOf P) from ⟨by rw [certsOf_length]; omega, hF1.2.1, fun c' hc' => hF1.2.2 c' (by unfold certsOf at *; rw [List.map_append]; exact List.mem_append_left _ hc')⟩)
    have SZ := Lib.hid (show ∀ r ∈ R ++ M, r.1.size ≤ 100 ∧ r.2.size ≤ 100 from fun r hr => (List.mem_append.1 hr).elim (hR.2 r) (hM.2 r))
    have hrl := hR.1
    have hml := hM.1
    have RV1 := Lib.hid (runV_any (run_args' HV.out HF.out HU.out FITP.out K2.out) bnd (Nat.le_refl _))
    clear hF1 hF2 hR hM HX HCF HF
    go_wp2_with fail
    (with_reducible refine (RV1.out).mono ?_)
    rintro e w2 ⟨s1, s2, x, rfl, hrv, k2⟩
    have HRV := Lib.hid hrv
    obtain ⟨oa, on, oc, va, vn, vc, rfl, rfl, _⟩ := hrv
    have ka := chg_alloc (fun _ => False) w2 (.cells #[.slice oa on oc, .slice va vn vc] 57)
    have RO3 := Lib.hid (obj_alloc_new w2 (.cells #[.slice oa on oc, .slice va vn vc] 57))
    have RV3 := Lib.hid (HRV.out.chg ka (fun _ q => q.elim))
    have K3 := Lib.hid ((K2.out.trans k2).trans ka)
    have BX3 := Lib.hid ((k2.trans ka).obj (fun e => e) BX2.out)
    clear RV1 k2 ka HRV K2 BX2
    go_wp2_with fail
    generalize hr3 : w2.heap.size = r3 at *
    generalize w2.alloc (.cells #[.slice oa on oc, .slice va vn vc] 57) = w3 at *
    have KD := Lib.hid (K3.out.drew)
    have ECF : ∀ args w, (callFunc 26 args).run Try.prog w = .ok (.enter 26 args) w := enters_of Try.func26 (by kernel_rfl) rfl
    have LDB := Lib.hid (fun (W : World) (q : Chg (fun _ => False) w3.drew W) => (show (Instr.loadAt 37 (.pointer (some ⟨w.heap.size, 0, none⟩))).run Try.prog W = .ok (.agg #[.int .i64 c.kind, .int .u16 (c.sg : Int), .string c.sp, .slice sa c.fr.length sc, .int .i64 c.f, .int .i64 c.t, .int .i64 c.n]) W from by
      have ob := q.obj (fun e => e) ((chg_drew (fun _ => False) w3).obj (fun e => e) BX3.out)
      have d0 := cell_of (o := 0) ob rfl
      have d1 := cell_of (o := 1) ob rfl
      have d2 := cell_of (o := 2) ob rfl
      have d3 := cell_of (o := 3) ob rfl
      have d4 := cell_of (o := 4) ob rfl
      have d5 := cell_of (o := 5) ob rfl
      have d6 := cell_of (o := 6) ob rfl
      go_simp))
    have RAR := Lib.hid (fun (W : World) (q : Chg (fun _ => False) w W) (a4 : Option Addr) (c4 : Nat) (vv : Value) (h1 : W.ownsRow w3.drew.heap.size 64 2 (.slice a4 (R ++ M).length c4) (R ++ M).length (ruleCells (R ++ M))) (hx : W.ownsRow w3.drew.heap.size 37 7 vv (P ++ [(c, Value.slice sa c.fr.length sc)]).length (pcellsL (P ++ [(c, Value.slice sa c.fr.length sc)]))) => (show RunArgs W a4 (R ++ M) c4 vv (P ++ [(c, Value.slice sa c.fr.length sc)]) (· < W.heap.size) from
      ⟨(rulesAt_blk h1 (fun r hr => by have := SZ.out r hr; unfold maxLen; omega)).imp (fun j hj => (h1.lt j hj).2), (fun e => by subst e; exact own_nil h1), by rw [List.length_append]; omega, (fun _ r hr => by have := (SZ.out r hr).1; omega), (certsAt_own hx ((HU.out.sets.append SETP.out).chg q (fun _ _ e => e))).up (fun j hj => hj.elim (fun e => Nat.lt_of_lt_of_le e q.size) (fun e => (hx.lt j e).2)), by rw [List.length_append, List.length_singleton]; omega, fun j hj => hj⟩))
    refine wp_region_inv (InvM w3.drew w3.drew.heap.size R M P (c, Value.slice sa c.fr.length sc) bnd (.slice ra R.length rc) (.slice rm M.length rmc) (.slice la P.length cap)) (by kernel_rfl) (by kernel_rfl) (by kernel_rfl) (fun _ => undef) ?h0m ?stepm ?finm
    case h0m => exact ⟨Chg.refl _ _, (fun e => by cases e), (fun e => by cases e), (fun e => by cases e), (fun e => by cases e), (fun e => by cases e), (fun e => by cases e), (fun e => by cases e), (fun e => by cases e), (fun e => by cases e), (fun e => by cases e), (fun e => by cases e), (fun e => by cases e), (fun e => by cases e), (fun e => by cases e), (fun e => by cases e), (fun e => by cases e), (fun e => by cases e), (fun e => by cases e), (fun e => by cases e), (fun e => by cases e), (fun e => by cases e), (fun e => by cases e), (fun e => by cases e), (fun e => by cases e)⟩
    case stepm =>
      intro L V W i o' ho hL hdep h
      have hb : w3.drew.heap.size ≤ W.heap.size := h.k.size
      have hi : i < 19 := (Array.getElem?_eq_some_iff.1 ho).1
      rcases (by omega : i = 0 ∨ i = 1 ∨ i = 2 ∨ i = 3 ∨ i = 4 ∨ i = 5 ∨ i = 6 ∨ i = 7 ∨ i = 8 ∨ i = 9 ∨ i = 10 ∨ i = 11 ∨ i = 12 ∨ i = 13 ∨ i = 14 ∨ i = 15 ∨ i = 16 ∨ i = 17 ∨ i = 18) with rfl | rfl | rfl | rfl | rfl | rfl | rfl | rfl | rfl | rfl | rfl | rfl | rfl | rfl | rfl | rfl | rfl | rfl | rfl
      all_goals
        simp only [List.getElem?_toArray, List.getElem?_cons_succ, List.getElem?_cons_zero, Option.some.injEq] at ho
        subst ho
        simp [Region.binds] at hdep
      · have h' := h.chg0 (chg_alloc (fun _ => False) W (.cells #[] 64))
        refine wpList_valW rfl (.slice (some ⟨W.heap.size, 0, none⟩) 0 0) (W.alloc (.cells #[] 64)) (by kernel_rfl) ?_
        exact ⟨_, rfl, ⟨h'.k, h'.r1, h'.r3, h'.r6, h'.r8, h'.r11, (fun _ _ => own_empty _ _ _ _ hb), h'.a2, h'.a4, h'.b5, h'.b7, h'.c9, h'.ap5, h'.ap7, h'.b10, h'.o4, h'.o10, h'.o12, h'.o13, h'.o14, h'.o15, h'.o17, h'.o18, h'.f, h'.d⟩⟩
      · refine wpList_valW rfl (.slice ra R.length rc) W (run_mv (.inl rfl) (canon_eval0 (Nat.le_of_ble_eq_true rfl) (by kernel_rfl))) ?_
        exact ⟨_, rfl, ⟨h.k, fun _ => rfl, h.r3, h.r6, h.r8, h.r11, h.a0, h.a2, h.a4, h.b5, h.b7, h.c9, h.ap5, h.ap7, h.b10, h.o4, h.o10, h.o12, h.o13, h.o14, h.o15, h.o17, h.o18, h.f, h.d⟩⟩
      · replace hdep : L 0 = true ∧ L 1 = true := (by simp [hdep])
        refine wpList_pushSF rfl (.tmp 48) (.tmp 49) 53 rfl 64 2 32 Try.underlying53 Try.elemRule w3.drew.heap.size (V 0) 0 [] (canon_eval (Nat.le_of_ble_eq_true rfl) (by kernel_rfl) hdep.1) (h.a0 hdep.1 hL) ra R.length rc (ruleCells R) ((canon_eval (Nat.le_of_ble_eq_true rfl) (by kernel_rfl) hdep.2).trans (h.r1 hdep.2)) (ruleCells_length R) (rules_src (HV.out.at_.chg (KD.out.trans h.k) (fun _ _ e => e))) (fun e => HV.out.nil _ _ (by rw [e])) (ruleCells_one R) (by omega) (by unfold maxLen; omega) hb ?_
        intro v' w' ho' hg' hsn
        have kc : Chg (fun j => (V 0).ownBlock = some j) W w' := Chg.of_grown hg'
        rw [Nat.zero_add] at ho'
        exact ⟨v', rfl, ⟨h.k.next kc (fun j hj e => by have := ((h.a0 hdep.1 hL).lt j e).1; omega), h.r1, h.r3, h.r6, h.r8, h.r11, (fun _ q => by cases q), (fun _ _ => ho'), (fun q => by have q9 := h.o4 q; rw [q9] at hL; cases hL), (fun x y => own_chg (h.b5 x y) kc (fun j hj q => by obtain ⟨cs, z⟩ := own_cells (h.a0 hdep.1 hL) q; exact row_ne (h.b5 x y) z (by decide) hj)), (fun x y => own_chg (h.b7 x y) kc (fun j hj q => by obtain ⟨cs, z⟩ := own_cells (h.a0 hdep.1 hL) q; exact row_ne (h.b7 x y) z (by decide) hj)), (fun x y => ⟨(h.c9 x y).1, own_chg (h.c9 x y).2 kc (fun j hj q => by obtain ⟨cs, z⟩ := own_cells (h.a0 hdep.1 hL) q; exact row_ne (h.c9 x y).2 z (by decide) hj)⟩), h.ap5, h.ap7, (fun x => own_chg (h.b10 x) kc (fun j hj q => by obtain ⟨cs, z⟩ := own_cells (h.a0 hdep.1 hL) q; exact row_ne (h.b10 x) z (by decide) hj)), (fun _ => rfl), h.o10, h.o12, h.o13, h.o14, h.o15, h.o17, h.o18, (fun q => by have q9 := h.o4 (h.o12 q).1; rw [q9] at hL; cases hL), (fun x y => by obtain ⟨gd, e1, e2, e3⟩ := h.d x y; exact ⟨gd, e1, kc.obj (fun e => row_ne (h.a0 hdep.1 hL) e2 (by decide) e) e2, e3⟩)⟩⟩
      · refine wpList_valW rfl (.slice rm M.length rmc) W (run_mv (.inl rfl) (canon_eval0 (Nat.le_of_ble_eq_true rfl) (by kernel_rfl))) ?_
        exact ⟨_, rfl, ⟨h.k, h.r1, fun _ => rfl, h.r6, h.r8, h.r11, h.a0, h.a2, h.a4, h.b5, h.b7, h.c9, h.ap5, h.ap7, h.b10, h.o4, h.o10, h.o12, h.o13, h.o14, h.o15, h.o17, h.o18, h.f, h.d⟩⟩
      · replace hdep : L 2 = true ∧ L 3 = true := (by simp [hdep])
        refine wpList_pushSF rfl (.tmp 50) (.tmp 51) 53 rfl 64 2 32 Try.underlying53 Try.elemRule w3.drew.heap.size (V 2) R.length (ruleCells R) (canon_eval (Nat.le_of_ble_eq_true rfl) (by kernel_rfl) hdep.1) (h.a2 hdep.1 hL) rm M.length rmc (ruleCells M) ((canon_eval (Nat.le_of_ble_eq_true rfl) (by kernel_rfl) hdep.2).trans (h.r3 hdep.2)) (ruleCells_length M) (rules_src (HM.out.at_.chg (KD.out.trans h.k) (fun _ _ e => e))) (fun e => HM.out.nil _ _ (by rw [e])) (ruleCells_one M) (by omega) (by unfold maxLen; omega) hb ?_
        intro v' w' ho' hg' hsn
        have kc : Chg (fun j => (V 2).ownBlock = some j) W w' := Chg.of_grown hg'
        exact ⟨v', rfl, ⟨h.k.next kc (fun j hj e => by have := ((h.a2 hdep.1 hL).lt j e).1; omega), h.r1, h.r3, h.r6, h.r8, h.r11, (fun _ q => by have q2 : L 2 = false := q; rw [hdep.1] at q2; cases q2), (fun _ q => by cases q), (fun _ => by rw [ruleCells_append, List.length_append]; exact ho'), (fun x y => own_chg (h.b5 x y) kc (fun j hj q => by obtain ⟨cs, z⟩ := own_cells (h.a2 hdep.1 hL) q; exact row_ne (h.b5 x y) z (by decide) hj)), (fun x y => own_chg (h.b7 x y) kc (fun j hj q => by obtain ⟨cs, z⟩ := own_cells (h.a2 hdep.1 hL) q; exact row_ne (h.b7 x y) z (by decide) hj)), (fun x y => ⟨(h.c9 x y).1, own_chg (h.c9 x y).2 kc (fun j hj q => by obtain ⟨cs, z⟩ := own_cells (h.a2 hdep.1 hL) q; exact row_ne (h.c9 x y).2 z (by decide) hj)⟩), h.ap5, h.ap7, (fun x => own_chg (h.b10 x) kc (fun j hj q => by obtain ⟨cs, z⟩ := own_cells (h.a2 hdep.1 hL) q; exact row_ne (h.b10 x) z (by decide) hj)), (fun _ => hdep.1), h.o10, (fun q => ⟨rfl, (h.o12 q).2⟩), h.o13, h.o14, h.o15, h.o17, h.o18, (fun q => by have q9 := (h.o12 q).1; rw [q9] at hL; cases hL), (fun x y => by obtain ⟨gd, e1, e2, e3⟩ := h.d x y; exact ⟨gd, e1, kc.obj (fun e => row_ne (h.a2 hdep.1 hL) e2 (by decide) e) e2, e3⟩)⟩⟩
      · have h' := h.chg0 (chg_alloc (fun _ => False) W (.cells #[] 37))
        refine wpList_valW rfl (.slice (some ⟨W.heap.size, 0, none⟩) 0 0) (W.alloc (.cells #[] 37)) (by kernel_rfl) ?_
        exact ⟨_, rfl, ⟨h'.k, h'.r1, h'.r3, h'.r6, h'.r8, h'.r11, h'.a0, h'.a2, h'.a4, (fun _ _ => own_empty _ _ _ _ hb), h'.b7, h'.c9, (fun _ _ q8 q9 y hy e => by have := ((h.c9 q8 q9).2.lt y hy).2; have e2 : W.heap.size = y := Option.some.inj e; omega), h'.ap7, h'.b10, h'.o4, h'.o10, h'.o12, h'.o13, h'.o14, h'.o15, h'.o17, h'.o18, h'.f, h'.d⟩⟩
      · refine wpList_valW rfl (.slice la P.length cap) W (run_mv (.inl rfl) (canon_eval0 (Nat.le_of_ble_eq_true rfl) (by kernel_rfl))) ?_
        exact ⟨_, rfl, ⟨h.k, h.r1, h.r3, fun _ => rfl, h.r8, h.r11, h.a0, h.a2, h.a4, h.b5, h.b7, h.c9, h.ap5, h.ap7, h.b10, h.o4, h.o10, h.o12, h.o13, h.o14, h.o15, h.o17, h.o18, h.f, h.d⟩⟩
      · replace hdep : L 5 = true ∧ L 6 = true := (by simp [hdep])
        refine wpList_pushSF rfl (.tmp 53) (.tmp 54) 54 rfl 37 7 80 Try.underlying54 Try.elemCert w3.drew.heap.size (V 5) 0 [] (canon_eval (Nat.le_of_ble_eq_true rfl) (by kernel_rfl) hdep.1) (h.b5 hdep.1 hL) la P.length cap (pcellsL P) ((canon_eval (Nat.le_of_ble_eq_true rfl) (by kernel_rfl) hdep.2).trans (h.r6 hdep.2)) (pcellsL_length P) (certs_src (HU.out.chg (KD.out.trans h.k) (fun _ _ e => e))) (fun e => HCA.out.nil _ _ (by rw [e])) SETS.out (by omega) (by unfold maxLen; omega) hb ?_
        intro v' w' ho' hg' hsn
        have kc : Chg (fun j => (V 5).ownBlock = some j) W w' := Chg.of_grown hg'
        rw [Nat.zero_add] at ho'
        exact ⟨v', rfl, ⟨h.k.next kc (fun j hj e => by have := ((h.b5 hdep.1 hL).lt j e).1; omega), h.r1, h.r3, h.r6, h.r8, h.r11, (fun x y => own_chg (h.a0 x y) kc (fun j hj q => by obtain ⟨cs, z⟩ := own_cells (h.b5 hdep.1 hL) q; exact row_ne (h.a0 x y) z (by decide) hj)), (fun x y => own_chg (h.a2 x y) kc (fun j hj q => by obtain ⟨cs, z⟩ := own_cells (h.b5 hdep.1 hL) q; exact row_ne (h.a2 x y) z (by decide) hj)), (fun x => own_chg (h.a4 x) kc (fun j hj q => by obtain ⟨cs, z⟩ := own_cells (h.b5 hdep.1 hL) q; exact row_ne (h.a4 x) z (by decide) hj)), (fun _ q => by cases q), (fun _ _ => ho'), (fun q8 q9 => ⟨(h.c9 q8 q9).1, own_chg (h.c9 q8 q9).2 kc (fun j hj e => h.ap5 hdep.1 hL q8 q9 j hj e)⟩), (fun _ q => by cases q), (fun _ q8 q9 y hy e => hsn.elim (fun q => h.ap5 hdep.1 hL q8 q9 y hy (q ▸ e)) (fun q => by have := q y e; have := ((h.c9 q8 q9).2.lt y hy).2; omega)), (fun q => by have q9 := (h.o10 q).1; rw [q9] at hL; cases hL), h.o4, (fun q => ⟨rfl, (h.o10 q).2⟩), h.o12, h.o13, h.o14, h.o15, h.o17, h.o18, (fun q => by have q9 := (h.o10 (h.o12 q).2.1).1; rw [q9] at hL; cases hL), (fun x y => by obtain ⟨gd, e1, e2, e3⟩ := h.d x y; exact ⟨gd, e1, kc.obj (fun e => row_ne (h.b5 hdep.1 hL) e2 (by decide) e) e2, e3⟩)⟩⟩
      · refine wpList_valW rfl (.agg #[.int .i64 c.kind, .int .u16 (c.sg : Int), .string c.sp, .slice sa c.fr.length sc, .int .i64 c.f, .int .i64 c.t, .int .i64 c.n]) W (run_ld rfl (canon_eval0 (Nat.le_of_ble_eq_true rfl) (by kernel_rfl)) (LDB.out W h.k)) ?_
        exact ⟨_, rfl, ⟨h.k, h.r1, h.r3, h.r6, fun _ => rfl, h.r11, h.a0, h.a2, h.a4, h.b5, h.b7, h.c9, h.ap5, h.ap7, h.b10, h.o4, h.o10, h.o12, h.o13, h.o14, h.o15, h.o17, h.o18, h.f, h.d⟩⟩
      · have h' := h.chg0 (chg_alloc (fun _ => False) W (.cells #[.int .i64 c.kind, .int .u16 (c.sg : Int), .string c.sp, .slice sa c.fr.length sc, .int .i64 c.f, .int .i64 c.t, .int .i64 c.n] 37))
        refine wpList_valW rfl (.slice (some ⟨W.heap.size, 0, none⟩) 1 1) (W.alloc (.cells #[.int .i64 c.kind, .int .u16 (c.sg : Int), .string c.sp, .slice sa c.fr.length sc, .int .i64 c.f, .int .i64 c.t, .int .i64 c.n] 37)) (run_bs1 rfl ((canon_eval (Nat.le_of_ble_eq_true rfl) (by kernel_rfl) hdep).trans (h.r8 hdep)) (by kernel_rfl)) ?_
        exact ⟨_, rfl, ⟨h'.k, h'.r1, h'.r3, h'.r6, h'.r8, h'.r11, h'.a0, h'.a2, h'.a4, h'.b5, h'.b7, (fun _ _ => ⟨⟨_, rfl⟩, own_base (own_lit (xs := pcellsL [(c, Value.slice sa c.fr.length sc)]) rfl (by decide)) hb⟩), (fun q1 q3 _ _ y hy e => by have := ((h.b5 q1 q3).lt y e).2; have e2 : W.heap.size = y := Option.some.inj hy; omega), (fun q3 _ q9 y hy e => by have := ((h.b7 q3 q9).lt y e).2; have e2 : W.heap.size = y := Option.some.inj hy; omega), h'.b10, h'.o4, (fun q => ⟨(h.o10 q).1, rfl⟩), h'.o12, h'.o13, h'.o14, h'.o15, h'.o17, h'.o18, h'.f, h'.d⟩⟩
      · replace hdep : L 7 = true ∧ L 9 = true := (by simp [hdep])
        obtain ⟨⟨gc, e8⟩, oc8⟩ := h.c9 hdep.2 hL
        have oc9 := oc8
        rw [e8] at oc9
        refine wpList_pushSF rfl (.tmp 55) (.tmp 57) 54 rfl 37 7 80 Try.underlying54 Try.elemCert w3.drew.heap.size (V 7) P.length (pcellsL P) (canon_eval (Nat.le_of_ble_eq_true rfl) (by kernel_rfl) hdep.1) (h.b7 hdep.1 hL) (some ⟨gc, 0, none⟩) 1 1 (pcellsL [(c, Value.slice sa c.fr.length sc)]) ((canon_eval (Nat.le_of_ble_eq_true rfl) (by kernel_rfl) hdep.2).trans e8) rfl (fun j u hj => ⟨gc, 0, rfl, by rw [Nat.zero_add, oc9.cellAt (j := j) (by have := (List.getElem?_eq_some_iff.1 hj).1; rw [pcellsL_length] at this; exact this)]; exact hj⟩) (by intro e; cases e) SET1.out (by omega) (by unfold maxLen; omega) hb ?_
        intro v' w' ho' hg' hsn
        have kc : Chg (fun j => (V 7).ownBlock = some j) W w' := Chg.of_grown hg'
        exact ⟨v', rfl, ⟨h.k.next kc (fun j hj e => by have := ((h.b7 hdep.1 hL).lt j e).1; omega), h.r1, h.r3, h.r6, h.r8, h.r11, (fun x y => own_chg (h.a0 x y) kc (fun j hj q => by obtain ⟨cs, z⟩ := own_cells (h.b7 hdep.1 hL) q; exact row_ne (h.a0 x y) z (by decide) hj)), (fun x y => own_chg (h.a2 x y) kc (fun j hj q => by obtain ⟨cs, z⟩ := own_cells (h.b7 hdep.1 hL) q; exact row_ne (h.a2 x y) z (by decide) hj)), (fun x => own_chg (h.a4 x) kc (fun j hj q => by obtain ⟨cs, z⟩ := own_cells (h.b7 hdep.1 hL) q; exact row_ne (h.a4 x) z (by decide) hj)), (fun _ q => by have q2 : L 7 = false := q; rw [hdep.1] at q2; cases q2), (fun _ q => by cases q), (fun _ q => by cases q), (fun _ _ _ q => by cases q), (fun _ _ q => by cases q), (fun _ => by rw [pcellsL_append, List.length_append]; exact ho'), h.o4, (fun _ => hdep), (fun q => ⟨(h.o12 q).1, rfl, (h.o12 q).2.2⟩), h.o13, h.o14, h.o15, h.o17, h.o18, (fun q => by have q9 := (h.o12 q).2.1; rw [q9] at hL; cases hL), (fun x y => by obtain ⟨gd, e1, e2, e3⟩ := h.d x y; exact ⟨gd, e1, kc.obj (fun e => row_ne (h.b7 hdep.1 hL) e2 (by decide) e) e2, e3⟩)⟩⟩
      · refine wpList_valW rfl (.int .i64 bnd) W (run_mv (.inl rfl) (canon_eval0 (Nat.le_of_ble_eq_true rfl) (by kernel_rfl))) ?_
        exact ⟨_, rfl, ⟨h.k, h.r1, h.r3, h.r6, h.r8, fun _ => rfl, h.a0, h.a2, h.a4, h.b5, h.b7, h.c9, h.ap5, h.ap7, h.b10, h.o4, h.o10, (fun q => ⟨(h.o12 q).1, (h.o12 q).2.1, rfl⟩), h.o13, h.o14, h.o15, h.o17, h.o18, h.f, h.d⟩⟩
      · replace hdep : L 4 = true ∧ L 10 = true ∧ L 11 = true := (by simp [hdep])
        obtain ⟨a4, c4, e4⟩ := own_shape (h.a4 hdep.1)
        have oa4 := h.a4 hdep.1
        rw [e4] at oa4
        have ra' := RAR.out W (KD.out.trans h.k) a4 c4 (V 10) oa4 (h.b10 hdep.2.1)
        refine wpList_calls rfl 26 #[.slice a4 (R ++ M).length c4, V 10, .int .i64 bnd] (run_cl3 rfl rfl ((canon_eval (Nat.le_of_ble_eq_true rfl) (by kernel_rfl) hdep.1).trans e4) (canon_eval (Nat.le_of_ble_eq_true rfl) (by kernel_rfl) hdep.2.1) ((canon_eval (Nat.le_of_ble_eq_true rfl) (by kernel_rfl) hdep.2.2).trans (h.r11 hdep.2.2)) ECF) (runV_any ra' bnd hb) ?_
        rintro e w' ⟨s1, s2, x, he, hrv, hc⟩
        have h' := h.chg0 hc
        exact ⟨_, he, _, rfl, ⟨h'.k, h'.r1, h'.r3, h'.r6, h'.r8, h'.r11, h'.a0, h'.a2, h'.a4, h'.b5, h'.b7, h'.c9, h'.ap5, h'.ap7, h'.b10, h'.o4, h'.o10, (fun _ => hdep), (fun _ => rfl), h'.o14, h'.o15, h'.o17, h'.o18, (fun _ => ⟨s1, s2, x, rfl, hrv, (fun q => by have q9 := h.o13 q; rw [q9] at hL; cases hL), (fun q => by have q9 := h.o13 (h.o14 q); rw [q9] at hL; cases hL), (fun q => by have q9 := h.o13 (h.o15 q); rw [q9] at hL; cases hL), (fun q => by have q9 := h.o13 (h.o14 (h.o17 q).1); rw [q9] at hL; cases hL), (fun q => by have q9 := h.o13 (h.o15 (h.o18 q)); rw [q9] at hL; cases hL)⟩), h'.d⟩⟩
      · replace hdep : L 12 = true := (by simp [hdep])
        obtain ⟨s1, s2, x, e, hrv, _, _, _, _, _⟩ := h.f hdep
        refine wpList_valW rfl _ W (run_mv (.inl rfl) ((canon_eval (Nat.le_of_ble_eq_true rfl) (by kernel_rfl) hdep).trans e)) ?_
        exact ⟨_, rfl, ⟨h.k, h.r1, h.r3, h.r6, h.r8, h.r11, h.a0, h.a2, h.a4, h.b5, h.b7, h.c9, h.ap5, h.ap7, h.b10, h.o4, h.o10, h.o12, (fun _ => hdep), (fun _ => rfl), (fun _ => rfl), h.o17, h.o18, (fun _ => ⟨s1, s2, x, e, hrv, (fun _ => rfl), (fun q => by have q9 := h.o14 q; rw [q9] at hL; cases hL), (fun q => by have q9 := h.o15 q; rw [q9] at hL; cases hL), (fun q => by have q9 := h.o14 (h.o17 q).1; rw [q9] at hL; cases hL), (fun q => by have q9 := h.o15 (h.o18 q); rw [q9] at hL; cases hL)⟩), h.d⟩⟩
      · replace hdep : L 13 = true := (by simp [hdep])
        obtain ⟨s1, s2, x, e, hrv, q2, _, q4, _, q6⟩ := h.f (h.o13 hdep)
        refine wpList_valW rfl (.agg #[s1, s2]) W (run_ex rfl ((canon_eval (Nat.le_of_ble_eq_true rfl) (by kernel_rfl) hdep).trans (q2 hdep)) (by kernel_rfl)) ?_
        exact ⟨_, rfl, ⟨h.k, h.r1, h.r3, h.r6, h.r8, h.r11, h.a0, h.a2, h.a4, h.b5, h.b7, h.c9, h.ap5, h.ap7, h.b10, h.o4, h.o10, h.o12, h.o13, (fun _ => hdep), h.o15, (fun q => ⟨rfl, (h.o17 q).2⟩), h.o18, (fun _ => ⟨s1, s2, x, e, hrv, q2, (fun _ => rfl), q4, (fun q => by have q9 := (h.o17 q).1; rw [q9] at hL; cases hL), q6⟩), h.d⟩⟩
      · replace hdep : L 13 = true := (by simp [hdep])
        obtain ⟨s1, s2, x, e, hrv, q2, q3, _, q5, _⟩ := h.f (h.o13 hdep)
        refine wpList_valW rfl (.int .i64 x) W (run_ex rfl ((canon_eval (Nat.le_of_ble_eq_true rfl) (by kernel_rfl) hdep).trans (q2 hdep)) (by kernel_rfl)) ?_
        exact ⟨_, rfl, ⟨h.k, h.r1, h.r3, h.r6, h.r8, h.r11, h.a0, h.a2, h.a4, h.b5, h.b7, h.c9, h.ap5, h.ap7, h.b10, h.o4, h.o10, h.o12, h.o13, h.o14, (fun _ => hdep), h.o17, (fun _ => rfl), (fun _ => ⟨s1, s2, x, e, hrv, q2, q3, (fun _ => rfl), q5, (fun q => by have q9 := h.o18 q; rw [q9] at hL; cases hL)⟩), h.d⟩⟩
      · have h' := h.chg0 (chg_alloc (fun _ => False) W (.cells #[.slice none 0 0, .slice none 0 0] 57))
        refine wpList_valW rfl (.pointer (some ⟨W.heap.size, 0, none⟩)) (W.alloc (.cells #[.slice none 0 0, .slice none 0 0] 57)) (run_al rfl (by kernel_rfl)) ?_
        exact ⟨_, rfl, ⟨h'.k, h'.r1, h'.r3, h'.r6, h'.r8, h'.r11, h'.a0, h'.a2, h'.a4, h'.b5, h'.b7, h'.c9, h'.ap5, h'.ap7, h'.b10, h'.o4, h'.o10, h'.o12, h'.o13, h'.o14, h'.o15, (fun q => ⟨(h.o17 q).1, rfl⟩), h'.o18, (fun q => by obtain ⟨s1, s2, x, e, hrv, q2, q3, q4, _, q6⟩ := h'.f q; exact ⟨s1, s2, x, e, hrv, q2, q3, q4, (fun q => by have q9 := (h.o17 q).2; rw [q9] at hL; cases hL), q6⟩), (fun _ _ => ⟨W.heap.size, rfl, obj_alloc_new _ _, hb⟩)⟩⟩
      · replace hdep : L 14 = true ∧ L 16 = true := (by simp [hdep])
        obtain ⟨s1, s2, x, e, hrv, q2, q3, q4, _, q6⟩ := h.f (h.o13 (h.o14 hdep.1))
        obtain ⟨gd, e15, od, hbd⟩ := h.d hdep.2 hL
        refine wpList_store_all rfl 57 (.tmp 13) (.tmp 61) rfl gd ((canon_eval (Nat.le_of_ble_eq_true rfl) (by kernel_rfl) hdep.2).trans e15) (.agg #[s1, s2]) ((canon_eval (Nat.le_of_ble_eq_true rfl) (by kernel_rfl) hdep.1).trans (q3 hdep.1)) ?hone #[.slice none 0 0, .slice none 0 0] 57 od rfl Try.sizeResult ?hst
        case hone =>
          obtain ⟨_, _, _, _, _, _, rfl, rfl, _⟩ := hrv
          intro y hy
          simp [Value.cells] at hy
          rcases hy with rfl | rfl <;> rfl
        case hst =>
          intro w' hob hc
          have hrow : ∀ {tt : TypeId} {sz nn : Nat} {vv : Value} {xx : List Value}, W.ownsRow w3.drew.heap.size tt sz vv nn xx → 57 ≠ tt → w'.ownsRow w3.drew.heap.size tt sz vv nn xx := fun hx hne => own_chg hx hc (fun j hj q => row_ne hx od hne (q ▸ hj))
          exact ⟨undef, rfl, ⟨h.k.next hc (fun j hj q => by omega), h.r1, h.r3, h.r6, h.r8, h.r11, (fun x y => hrow (h.a0 x y) (by decide)), (fun x y => hrow (h.a2 x y) (by decide)), (fun x => hrow (h.a4 x) (by decide)), (fun x y => hrow (h.b5 x y) (by decide)), (fun x y => hrow (h.b7 x y) (by decide)), (fun x y => ⟨(h.c9 x y).1, hrow (h.c9 x y).2 (by decide)⟩), h.ap5, h.ap7, (fun x => hrow (h.b10 x) (by decide)), h.o4, h.o10, h.o12, h.o13, h.o14, h.o15, (fun _ => hdep), h.o18, (fun _ => ⟨s1, s2, x, e, hrv.chg hc (fun j q => ⟨_, _, q ▸ od⟩), q2, q3, q4, (fun _ => ⟨gd, e15, hob⟩), q6⟩), (fun _ q => by cases q)⟩⟩
      · replace hdep : L 15 = true := (by simp [hdep])
        obtain ⟨s1, s2, x, e, hrv, q2, q3, q4, q5, _⟩ := h.f (h.o13 (h.o15 hdep))
        refine wpList_valW rfl _ W (run_mv (.inr rfl) ((canon_eval (Nat.le_of_ble_eq_true rfl) (by kernel_rfl) hdep).trans (q4 hdep))) ?_
        exact ⟨_, rfl, ⟨h.k, h.r1, h.r3, h.r6, h.r8, h.r11, h.a0, h.a2, h.a4, h.b5, h.b7, h.c9, h.ap5, h.ap7, h.b10, h.o4, h.o10, h.o12, h.o13, h.o14, h.o15, h.o17, (fun _ => hdep), (fun _ => ⟨s1, s2, x, e, hrv, q2, q3, q4, q5, (fun _ => rfl)⟩), h.d⟩⟩
    case finm =>
      intro L V W hall h
      obtain ⟨s1, s2, x2, _, hrv2, _, _, _, q16, q17⟩ := h.f (hall 12 (Nat.le_of_ble_eq_true rfl))
      obtain ⟨gd, e15, od⟩ := q16 (hall 17 (Nat.le_of_ble_eq_true rfl))
      have e17 := q17 (hall 18 (Nat.le_of_ble_eq_true rfl))
      have K5 := Lib.hid (KD.out.trans h.k)
      have RO5 := Lib.hid (h.k.obj (fun e => e) ((chg_drew (fun _ => False) w3).obj (fun e => e) RO3.out))
      have RV5 := Lib.hid ((RV3.out.chg (chg_drew (fun _ => False) w3) (fun _ q => q.elim)).chg h.k (fun _ q => q.elim))
      have RW5 := Lib.hid hrv2
      have OD5 := Lib.hid od
      obtain ⟨ob, on2, oc2, vb, vn2, vc2, rfl, rfl, _⟩ := hrv2
      rw [canon_all (by kernel_rfl) hall]
      clear q16 q17 h hall od RO3 RV3 K3 KD LDB RAR BX3
      simp only [putAll, dstOf, List.size_toArray, List.length_cons, List.length_nil, Nat.zero_add, Nat.reduceAdd, List.getElem?_toArray, List.getElem?_cons_succ, List.getElem?_cons_zero, Option.bind_some]
      rw [e15, e17]
      simp only [Act.put, List.setIfInBounds_toArray, List.set_cons_succ, List.set_cons_zero]
      have hce : certsOf (P ++ [(c, Value.slice sa c.fr.length sc)]) = certsOf P ++ [c] := by unfold certsOf; rw [List.map_append]; rfl
      rw [hce] at RW5
      generalize V 0 = y0
      generalize V 1 = y1
      generalize V 2 = y2
      generalize V 3 = y3
      generalize V 4 = y4
      generalize V 5 = y5
      generalize V 6 = y6
      generalize V 7 = y7
      generalize V 8 = y8
      generalize V 9 = y9
      generalize V 10 = y10
      generalize V 11 = y11
      generalize V 12 = y12
      generalize V 13 = y13
      generalize V 14 = y14
      generalize V 15 = y15
      generalize V 17 = y17
      clear e15 e17 hce
      by_cases hx : x = 0
      rotate_left
      · have gx : (x != 0) = true := by rw [bne_iff_ne]; exact hx
        clear hx
        go_wp2
        go_ret
        exact ⟨rfl, K5.out⟩
      subst hx
      by_cases hx2 : x2 = 0
      rotate_left
      · have gx : (x2 != 0) = true := by rw [bne_iff_ne]; exact hx2
        clear hx2
        go_wp2
        go_ret
        exact ⟨rfl, K5.out⟩
      subst hx2
      obtain ⟨_, _, _, _, _, _, q1, q2, q3⟩ := RV5.out
      cases q1
      cases q2
      obtain ⟨_, s, hs, rfl, rfl, ho1, hr1⟩ : (0 : Int) = 0 ∧ _ := q3.resolve_left (fun q => q.1 rfl)
      obtain ⟨_, _, _, _, _, _, q1, q2, q4⟩ := RW5.out
      cases q1
      cases q2
      obtain ⟨_, s', hs', rfl, rfl, ho2, hr2⟩ : (0 : Int) = 0 ∧ _ := q4.resolve_left (fun q => q.1 rfl)
      have hol := (accept_fin hs).1.len
      rw [certsOf_length] at hol
      have ALL := Lib.hid (more_all (accept_fin hs).1 (accept_fin hs').1)
      have A1 := Lib.hid ho1
      have A2 := Lib.hid ho2
      clear q3 q4 hs hs' ho1 hr1 ho2 hr2 RV5 RW5
      have f0 := cell_of (o := 0) RO5.out rfl
      go_wp2_with fail
      clear f0
      go_loopw [72] (fun iv wz => ∃ i : Nat, i ≤ s.order.length ∧ iv = .int .i64 i ∧ Hid (Chg (fun _ => False) W wz)) (fun iv _ => s.order.length - (intOf iv).toNat)
      case atStart => exact ⟨0, by omega, rfl, Lib.hid (Chg.refl _ _)⟩
      case round =>
        obtain ⟨i, hi, rfl, HI⟩ := hrel
        have KC := Lib.hid HI.out
        have KW := Lib.hid (K5.out.trans HI.out)
        clear HI
        by_cases hil : i < s.order.length
        rotate_left
        · obtain rfl : i = s.order.length := by omega
          go_wp2
          go_ret
          exact ⟨rfl, KW.out⟩
        obtain ⟨j, hj⟩ : ∃ j, s.order[i]? = some j := ⟨_, List.getElem?_eq_getElem hil⟩
        have hin := decide_eq_true (ALL.out j (List.mem_of_getElem? hj))
        obtain ⟨_, _, eo, _, hol2⟩ := own_get (own_chg A1.out KC.out (fun _ _ e => e))
        cases eo
        obtain ⟨go, rfl, _, o0⟩ := hol2 i (.int .i64 (j : Int)) (by unfold ints; rw [List.getElem?_map, hj]; rfl)
        have HB := has_own (va := vb) (vn := s'.rules.length) (vc := vc2) (own_chg A2.out KC.out (fun _ _ e => e)) j (j : Int) rfl
        rw [hin] at HB
        have HB := Lib.hid HB
        have ODR := KC.out.obj (fun e => e) OD5.out
        have g0 := cell_of (o := 0) ODR rfl
        have g1 := cell_of (o := 1) ODR rfl
        clear hol2 hj hin ODR
        go_wp2_with fail
        (with_reducible refine (HB.out).mono ?_)
        rintro e w6 ⟨rfl, k6⟩
        have KX := Lib.hid (KC.out.trans k6)
        clear k6 HB g0 g1 o0
        go_wp2
        go_roundw
        case rel => exact ⟨i + 1, by omega, by go_num, Lib.hid KX.out⟩
        case measure => simp [intOf]; omega
end Go.Proofs.Ytdgmjablkdemmaa
