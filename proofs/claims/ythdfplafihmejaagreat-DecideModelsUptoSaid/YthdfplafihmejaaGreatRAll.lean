/-
  Package reach: walkAll.
-/
import Derived.Test.YthdfplafihmejaaGreatRRow
namespace Go.Proofs.YthdfplafihmejaaGreat
open Go.RowKit Go.Maps
attribute [local go_sem] Oper.semAt_some

theorem placeF_nil : placeF [] = fun _ => none := by
 funext kl
 unfold placeF
 rw [dif_neg]
 rintro ⟨v, hv, _⟩
 simp [wordsR] at hv
/-- The marks that ranges over a function leave among a frame's deferred calls. -/
def Marks (lo : Nat) (W : World) (ds : List Deferred) : Prop :=
 ∃ Ds : List Nat, ds = Ds.map (fun D => { target := .collected D, args := #[] }) ∧ Ds.Nodup ∧ ∀ D ∈ Ds, lo ≤ D ∧ W.heap[D]? = some (.deferred (some []))
/-- What holds of walkAll's outer loop: so many rounds as there are marks are done. -/
structure OuterI (w w3 : World) (X3 : RB) (R : List BRul) (s : ByteArray) (bnd bi : Nat) (r : List Ent) (X : RB) (ds : List Deferred) (W : World) : Prop where
 row : RowR W w.heap.size X r
 xb : X.b = X3.b
 xm : X.bm = X3.bm
 goes : rowOf (R.map brul) s.data.toList bnd = outerR (R.map brul) bnd (bnd - ds.length) ds.length r
 le : ds.length ≤ bnd
 len : r.length ≤ bnd
 may : ∀ u ∈ wordsR r, mayB u = true
 box : W.heap[bi]? = some (.cells #[.int .i64 (ds.length : Int)] 3 (0, 0))
 hbi : w3.heap.size ≤ bi
 nbi : ¬ X.own bi
 own : ∀ k, X.own k → X3.own k ∨ w3.heap.size ≤ k
 chg : Chg X3.own w3 W
 marks : Marks w3.heap.size W ds
theorem rw_cell {W : World} {base : Nat} {X : RB} {r : List Ent} (h : RowR W base X r) {i : Nat} (hi : i < r.length) : ∀ g c, X.wv = .slice (some ⟨g, 0, none⟩) r.length c → W.cell? ⟨g, i, none⟩ = some (.string (bar (wordAt r i))) := by
 intro g c e
 have ho := h.hw
 rw [e] at ho
 rw [ho.cellAt i (by omega)]
 unfold rwCells wordAt
 rw [List.getElem?_map, List.getD_eq_getElem?_getD, List.getElem?_eq_getElem hi]; rfl
theorem RulesAt.imp {w : World} {v : Value} {G G' : Nat → Prop} {R : List BRul} (h : RulesAt w v G R) (hg : ∀ k, G k → G' k) : RulesAt w v G' R := by
 obtain ⟨la, cap, h1, h2, h3⟩ := h
 exact ⟨la, cap, h1, h2, fun j r hj => by obtain ⟨lb, lo, q1, q2, q3⟩ := h3 j r hj; exact ⟨lb, lo, q1, hg _ q2, q3⟩⟩
/-- The row as it is made. -/
theorem row_new (w : World) (base : Nat) (hb : base ≤ w.heap.size) (o : Obj) : RowR (((w.alloc (.map #[] 0)).alloc (.cells #[.slice none 0 0, .slice none 0 0, .map (some w.heap.size)] 212)).alloc o) base ⟨w.heap.size + 1, .slice none 0 0, .slice none 0 0, w.heap.size⟩ [] := by
 refine ⟨obj_alloc o (obj_alloc2 _ _ _), World.ownsRow_nil _ _ _ _, World.ownsRow_nil _ _ _ _, ?_, by show base ≤ w.heap.size + 1; omega, hb, (fun x h => by cases h), (fun h => by cases h), (fun h => by cases h)⟩
 rw [placeF_nil]
 exact (MapAt.made _ _ _ w).chg (((chg_alloc (fun _ => False) _ _)).alloc o) (fun e => e)
/-- What walkAll hands back: the row, or that too much is reached. -/
def WalkRes (w : World) (o : Option (List Ent)) (e : Ending) (w' : World) : Prop :=
 Chg (fun _ => False) w w' ∧ (∀ r, o = some r → ∃ X, e = .returned (.tuple #[.pointer (some ⟨X.b, 0, none⟩), .int .i64 0]) ∧ RowR w' w.heap.size X r) ∧ (o = none → e = .returned (.tuple #[.pointer none, .int .i64 12]))
theorem rules_up {w w1 : World} {v : Value} {R : List BRul} (h : RulesAt w v (· < w.heap.size) R) (k : Chg (fun _ => False) w w1) : RulesAt w1 v (· < w1.heap.size) R := by
 obtain ⟨la, cap, q1, q2, q3⟩ := h
 exact ⟨la, cap, q1, q2, fun j r hj => by obtain ⟨lb, lo, z1, z2, z3, z4, z5⟩ := q3 j r hj; exact ⟨lb, lo, z1, Nat.lt_of_lt_of_le z2 k.size, cell_chg k (fun e => e) z3, cell_chg k (fun e => e) z4, z5⟩⟩
set_option maxHeartbeats 1600000 in
set_option maxRecDepth 100000 in
theorem walkAll_row (w : World) (v : Value) (R : List BRul) (s : ByteArray) (bnd : Nat) (hv : RulesAt w v (· < w.heap.size) R) (hR : R.length ≤ 400) (hRs : ∀ r ∈ R, r.1.size ≤ 400) (hmay : mayB s.data.toList = true) (h1 : 1 ≤ bnd) (h2 : bnd ≤ 5000) :
  Calls Tryz.prog 138 #[v, .string s, .int .i64 (bnd : Int)] w (WalkRes w (rowOf (R.map brul) s.data.toList bnd)) := by
 have HV := Lib.hid hv
 obtain ⟨la, cap, rfl, hl0, _⟩ := hv
 have hs8 := may_size hmay
 have MAY := Lib.hid (fun w => wmay_any w s (by unfold maxLen; omega))
 rw [hmay] at MAY
 have HMAY := Lib.hid hmay
 have HRS := Lib.hid hRs
 clear hmay hRs
 have g1 : decide ((bnd : Int) < 1) = false := by rw [decide_eq_false_iff_not]; omega
 have g2 : decide ((5000 : Int) < (bnd : Int)) = false := by rw [decide_eq_false_iff_not]; omega
 refine (callsIn_wide (n := 5)).1 (callsIn_of_wp_marks Tryz.func138 rfl trivial (wpIn_wide.2 ?_) rfl)
 simp only [Tryz.ntmps138, List.size_toArray, List.length_cons, List.length_nil, Nat.reduceAdd, Nat.reduceSub, Array.replicate_succ, Array.replicate_zero, List.push_toArray, List.append_toArray, List.nil_append, List.cons_append]
 go_wp2_with fail
 (with_reducible refine (MAY.out _).mono ?_)
 rintro e w1 ⟨rfl, k1⟩
 have o5 := k1.obj (fun e => e) (obj_alloc (.cells #[.int .i64 0] 32) (obj_alloc (.cells #[.pointer none] 206) (obj_alloc_new w (.cells #[.int .i64 (bnd : Int)] 3))))
 have d5 : w1.cell? ⟨w.heap.size, 0, none⟩ = some (.int .i64 (bnd : Int)) := cell_of o5 rfl
 have K1 := Lib.hid ((((chg_alloc (fun _ => False) w (.cells #[.int .i64 (bnd : Int)] 3)).alloc (.cells #[.pointer none] 206)).alloc (.cells #[.int .i64 0] 32)).trans k1)
 have O5 := Lib.hid o5
 have K1b := Lib.hid (show w.heap.size + 3 ≤ w1.heap.size from by have := k1.size; simp at this; exact this)
 have o6 := k1.obj (fun e => e) (obj_alloc (.cells #[.int .i64 0] 32) (obj_alloc_new (w.alloc (.cells #[.int .i64 (bnd : Int)] 3)) (.cells #[.pointer none] 206)))
 have o7 := k1.obj (fun e => e) (obj_alloc_new ((w.alloc (.cells #[.int .i64 (bnd : Int)] 3)).alloc (.cells #[.pointer none] 206)) (.cells #[.int .i64 0] 32))
 rw [World.size_alloc] at o6
 rw [World.size_alloc, World.size_alloc] at o7
 have O6 := Lib.hid o6
 have O7 := Lib.hid o7
 clear o6 o7
 clear k1 o5
 have g3 : decide (400 < R.length) = false := by rw [decide_eq_false_iff_not]; omega
 have g4 : decide ((400 : Int) < (R.length : Int)) = false := by rw [decide_eq_false_iff_not]; omega
 have MACH := Lib.hid (machine_any w1 (.slice la R.length cap) R (rules_up HV.out K1.out) hR HRS.out)
 have hmm := @run_makeMap Tryz.prog
 go_wp2_with fail
 (with_reducible refine (MACH.out).mono ?_)
 rintro e w2 ⟨B, cs, rfl, m2, k2⟩
 have M2 := Lib.hid m2
 have K2 := Lib.hid k2
 clear m2 k2 MACH
 have hsz2 : w.heap.size + 3 ≤ w2.heap.size := Nat.le_trans (by have := K1b.out; omega) K2.out.size
 have PUT := Lib.hid (rput_any _ w2.heap.size ⟨w2.heap.size + 1, .slice none 0 0, .slice none 0 0, w2.heap.size⟩ [] s (-1) 0 0 (row_new w2 w2.heap.size (Nat.le_refl _) (.cells #[.pointer (some ⟨w2.heap.size + 1, 0, none⟩)] 206)) (by omega) (by simp))
 rw [show ((0 : Nat) : Int) = 0 from rfl] at PUT
 go_wp2_with fail
 (with_reducible refine (PUT.out).mono ?_)
 rintro e w3 ⟨⟨v3, rfl⟩, X, hXb, hXm, r3, k3, n3⟩
 have k3' : Chg (fun _ => False) w2 w3 := (((chg_alloc (fun _ => False) w2 (.map #[] 0)).alloc (.cells #[.slice none 0 0, .slice none 0 0, .map (some w2.heap.size)] 212)).alloc (.cells #[.pointer (some ⟨w2.heap.size + 1, 0, none⟩)] 206)).next k3 (fun k hk e => by
  rcases e with rfl | rfl | e | e
  ·exact absurd hk (by show ¬ (w2.heap.size + 1 < w2.heap.size); omega)
  ·exact absurd hk (by show ¬ (w2.heap.size < w2.heap.size); omega)
  ·cases e
  ·cases e)
 have K3 := Lib.hid (K2.out.trans k3')
 have K23 := Lib.hid k3'
 have hs3 : w2.heap.size + 3 ≤ w3.heap.size := by have := k3.size; simp at this; exact this
 have hnew := obj_alloc_new ((w2.alloc (.map #[] 0)).alloc (.cells #[.slice none 0 0, .slice none 0 0, .map (some w2.heap.size)] 212)) (.cells #[.pointer (some ⟨w2.heap.size + 1, 0, none⟩)] 206)
 rw [World.size_alloc, World.size_alloc] at hnew
 have O9 := Lib.hid (k3.obj (fun e => by
  rcases e with e | e | e | e
  ·exact absurd e (by show ¬ (w2.heap.size + 1 + 1 = w2.heap.size + 1); omega)
  ·exact absurd e (by show ¬ (w2.heap.size + 1 + 1 = w2.heap.size); omega)
  ·cases e
  ·cases e) hnew)
 clear hnew
 obtain ⟨X3, hX3⟩ : ∃ X3, X3 = X := ⟨_, rfl⟩
 have R3 := Lib.hid (show RowR w3 w2.heap.size X3 (startR s.data.toList) from by rw [hX3]; exact r3)
 have HXB := Lib.hid (show X3.b = w2.heap.size + 1 from by rw [hX3]; exact hXb)
 have OW3 := Lib.hid (show ∀ k, X3.own k → w2.heap.size ≤ k ∧ k < w3.heap.size ∧ k ≠ w2.heap.size + 1 + 1 from fun k hk => ⟨(RowG.own_lt R3.out hk).1, (RowG.own_lt R3.out hk).2, fun e => by
  subst hX3
  rcases n3 k hk with (q | q | q | q) | q
  ·have : k = w2.heap.size + 1 := q
   omega
  ·have : k = w2.heap.size := q
   omega
  ·cases q
  ·cases q
  ·simp at q; omega⟩)
 clear k3 k3' r3 hXb hXm n3 PUT hmm hX3
 go_wp2_with fail
 refine wp_loop (fun a W => ∃ (bi : Nat) (r : List Ent) (X : RB) (ds : List Deferred) (u11 u12 u37 u38 u39 u40 u41 u42 u43 u44 u45 u46 u47 u48 u49 u50 u51 u52 u53 u54 u55 u56 u57 u58 u59 u60 u61 u62 u63 u64 u65 u66 u67 u68 u69 u70 u71 u72 : Value), a = { tmps := #[.slice la R.length cap, .string s, .int .i64 (bnd : Int), undef, undef, .pointer (some ⟨w.heap.size, 0, none⟩), .pointer (some ⟨w.heap.size + 1, 0, none⟩), .pointer (some ⟨w.heap.size + 1 + 1, 0, none⟩), .pointer (some ⟨B.b, 0, none⟩), .pointer (some ⟨w2.heap.size + 1 + 1, 0, none⟩), .pointer (some ⟨bi, 0, none⟩), u11, u12, .bool false, .string s, .bool true, .bool false, .bool false, .int .i64 (bnd : Int), .bool false, .bool false, .int .i64 (bnd : Int), .bool false, .bool false, .bool false, .slice la R.length cap, .int .i64 (R.length : Int), .bool false, .slice la R.length cap, .pointer (some ⟨B.b, 0, none⟩), .map (some w2.heap.size), .agg #[.slice none 0 0, .slice none 0 0, .map (some w2.heap.size)], .pointer (some ⟨w2.heap.size + 1, 0, none⟩), .pointer (some ⟨w2.heap.size + 1, 0, none⟩), .string s, .agg #[.int .i64 (-1), .int .i64 0, .int .i64 0], v3, u37, u38, u39, u40, u41, u42, u43, u44, u45, u46, u47, u48, u49, u50, u51, u52, u53, u54, u55, u56, u57, u58, u59, u60, u61, u62, u63, u64, u65, u66, u67, u68, u69, u70, u71, u72], defers := ds } ∧ Hid (OuterI w2 w3 X3 R s bnd bi r X ds W)) (fun a _ => bnd + 1 - a.defers.length) ?start ?round
 case start =>
  refine ⟨w3.heap.size, startR s.data.toList, X3, [], undef, undef, undef, undef, undef, undef, undef, undef, undef, undef, undef, undef, undef, undef, undef, undef, undef, undef, undef, undef, undef, undef, undef, undef, undef, undef, undef, undef, undef, undef, undef, undef, undef, undef, undef, undef, undef, undef, rfl, Lib.hid ?_⟩
  refine ⟨RowG.chg R3.out (chg_alloc (fun _ => False) _ _) (fun _ _ e => e), rfl, rfl, rfl, by simp, by simpa [startR] using h1, ?_, obj_alloc_new _ _, Nat.le_refl _, ?_, fun k hk => .inl hk, chg_alloc _ _ _, [], rfl, by simp, by simp⟩
  ·intro u hu
   simp [startR, wordsR] at hu
   subst hu
   exact HMAY.out
  ·intro hk
   have := (OW3.out _ hk).2.1
   omega
 case round =>
  rintro a W ⟨bi, r, X, ds, u11, u12, u37, u38, u39, u40, u41, u42, u43, u44, u45, u46, u47, u48, u49, u50, u51, u52, u53, u54, u55, u56, u57, u58, u59, u60, u61, u62, u63, u64, u65, u66, u67, u68, u69, u70, u71, u72, rfl, HI⟩
  have hxb : X.b = w2.heap.size + 1 := HI.out.xb.trans HXB.out
  have db : W.cell? ⟨bi, 0, none⟩ = some (.int .i64 (ds.length : Int)) := cell_of HI.out.box rfl
  have d9 : W.cell? ⟨w2.heap.size + 1 + 1, 0, none⟩ = some (.pointer (some ⟨w2.heap.size + 1, 0, none⟩)) := cell_of (HI.out.chg.obj (fun e => (OW3.out _ e).2.2 rfl) O9.out) rfl
  obtain ⟨aw, cw, ew⟩ := own_shape HI.out.row.hw
  have dw : W.cell? ⟨w2.heap.size + 1, 0, none⟩ = some (.slice aw r.length cw) := by rw [← hxb, ← ew]; exact cell_of HI.out.row.hb rfl
  have hrl := HI.out.len
  have hdl := HI.out.le
  have EW := Lib.hid ew
  have HXB2 := Lib.hid hxb
  clear ew hxb
  by_cases hi : ds.length < r.length
  ·go_wp2_with fail
   go_quiet (fail)
   rename_i nq
   go_wp2_with fail
   obtain ⟨gw, rfl⟩ := own_some (by rw [← EW.out]; exact HI.out.row.hw) (by omega)
   have hrc := rw_cell HI.out.row hi
   rw [EW.out] at hrc
   have e1 : W.cell? ⟨gw, ds.length, none⟩ = some (.string (bar (wordAt r ds.length))) := hrc gw _ rfl
   have STP := Lib.hid (fun w => steps_any w (some ⟨B.b, 0, none⟩) (.slice la R.length cap) (bar (wordAt r ds.length)) la R.length cap rfl)
   refine wp_still_tail_drew 9 (by kernel_rfl) (by kernel_rfl) ?_
   repeat still_step
   refine wpStill_nil ?_
   go_wp2_with fail
   have kd : Chg (fun _ => False) W (W.drewN (nq + 1)) := (Chg.refl _ W).drewN (nq + 1)
   generalize W.drewN (nq + 1) = Wd at *
   (with_reducible refine (STP.out _).mono ?_)
   rintro e w5 ⟨rfl, hw5⟩
   go_wp2_with fail
   have k5 : Chg (fun _ => False) W w5 := by rw [← hw5]; exact ((kd.alloc _).alloc _).alloc _
   have n1 : w5.cell? ⟨Wd.heap.size, 0, none⟩ = some (.pointer (some ⟨B.b, 0, none⟩)) := by rw [← hw5]; exact cell_of (obj_alloc _ (obj_alloc _ (obj_alloc_new Wd _))) rfl
   have n2 : w5.cell? ⟨Wd.heap.size + 1, 0, none⟩ = some (.slice la R.length cap) := by rw [← hw5]; exact cell_of (obj_alloc _ (obj_alloc2 Wd _ _)) rfl
   have n3 : w5.cell? ⟨Wd.heap.size + 2, 0, none⟩ = some (.string (bar (wordAt r ds.length))) := by
    have := obj_alloc2 (Wd.alloc (.cells #[.pointer (some ⟨B.b, 0, none⟩)] 233)) (.cells #[.slice la R.length cap] 22) (.cells #[.string (bar (wordAt r ds.length))] 57)
    rw [World.size_alloc] at this
    rw [← hw5]; exact cell_of this rfl
   have s5 : w5.heap.size = Wd.heap.size + 3 := by rw [← hw5]; simp
   have sd := kd.size
   have s3 := HI.out.chg.size
   have hlW : ∀ k, X.own k → w2.heap.size ≤ k ∧ k < W.heap.size := fun k hk => RowG.own_lt HI.out.row hk
   have hXO : ∀ k, X.own k → X3.own k ∨ w3.heap.size ≤ k := HI.out.own
   have row5 := RowG.chg HI.out.row k5 (fun _ _ e => e)
   have hwd := wordAt_mem hi
   have hmw : mayB (bar (wordAt r ds.length)).data.toList = true := by rw [bar_list]; exact HI.out.may _ hwd
   have hst : ∀ x ∈ stepsOf (R.map brul) (bar (wordAt r ds.length)).data.toList, mayB x.2 = true := fun x hx => (step_may hmw ⟨x.1, hx⟩).1
   obtain ⟨xs, hxs⟩ : ∃ xs : List StepW, xs.map (·.1) = stepsOf (R.map brul) (bar (wordAt r ds.length)).data.toList := ⟨stepsS R _ (fun x hx => by
    have := ((mayB_iff _).1 (hst x hx)).2.2.1
    unfold alen at this
    omega), stepsS_val _ _ _⟩
   have kW : Chg (fun _ => False) w W := (K1.out.trans K3.out).next HI.out.chg (fun k hk e => by have := (OW3.out k e).1; omega)
   have mach5 := (M2.out.chgS ((K23.out.mono (fun _ _ e => e.elim)).trans HI.out.chg) (fun k _ hk e => by have := (OW3.out k e).1; omega)).chg k5
   have rul5 := RulesAt.imp (HV.out.chg (kW.trans k5) (fun _ _ e => e)) (G' := fun k => ¬ rowOwn X.b w5 k) (fun k hk e => by have := (hlW k (row5.rowOwn.2 e)).1; omega)
   have oW : ∀ k o, k < w2.heap.size → w1.heap[k]? = some o → w5.heap[k]? = some o := fun k o hk ho => k5.obj (fun e => e) (HI.out.chg.obj (fun e => by have := (OW3.out _ e).1; omega) (K3.out.obj (fun e => e) ho))
   have p5 := oW _ _ (by omega) O5.out
   have p6 := oW _ _ (by omega) O6.out
   have p7 := oW _ _ (by omega) O7.out
   have p9 := k5.obj (fun e => e) (HI.out.chg.obj (fun e => (OW3.out _ e).2.2 rfl) O9.out)
   have pb := k5.obj (fun e => e) HI.out.box
   have hbW : bi < W.heap.size := lt_of_obj HI.out.box
   have hnX : ∀ k, k < w2.heap.size ∨ k = w2.heap.size + 1 + 1 ∨ k = bi → ¬ X.own k := by
    rintro k (hk | rfl | rfl) e
    ·have := (hlW k e).1; omega
    ·rcases hXO _ e with e | e
     ·exact (OW3.out _ e).2.2 rfl
     ·omega
    ·exact HI.out.nbi e
   refine (wpIn_wide (n := 5)).1 ?_
   refine wpIn_rangeFunc_ownH (n := 5) rfl (by decide) (gf := 169) (lb := #[.pointer (some ⟨Wd.heap.size, 0, none⟩), .pointer (some ⟨Wd.heap.size + 2, 0, none⟩), .pointer (some ⟨Wd.heap.size + 1, 0, none⟩)]) rfl trivial (enters_of Tryz.func169 (by kernel_rfl) rfl)
    (steps_stops 4 X.b _ Wd.heap.size B cs w5 R la cap _ xs hxs hmw hR HRS.out mach5 n1 n2 n3 rul5 (by have := (hlW X.b (.inl rfl)).2; omega) (fun e => by have := (hlW _ (row5.rowOwn.2 e)).2; omega) (fun e => by have := (hlW _ (row5.rowOwn.2 e)).2; omega) (fun k e => by have := (hlW _ (row5.rowOwn.2 e)).2; omega))
    KpR.trans (kpR_put (by have := (hlW X.b (.inl rfl)).2; omega)) (Below.refl _ _) (fun _ => rfl)
    (InnerI w2.heap.size bnd ds.length r X w5) (InnerX bnd ds.length r X (w.heap.size + 1) (w.heap.size + 1 + 1) w5)
    (innerI_own (fun k hk => by have := (hlW k hk).2; omega)) (fun c => innerX_own (by omega) (by omega) c)
    ⟨r, X, rfl, row5, rfl, rfl, hrl, fun k hk => .inl hk, Chg.refl _ _⟩
    (fun x a' W1 => ∃ Bx, W1.heap[Bx]? = some (.cells #[.int .i64 (x.1.1.1 : Int), .int .i64 (x.1.1.2 : Int)] 153 (0, 0)) ∧ a' = { tmps := #[.slice la R.length cap, .string s, .int .i64 (bnd : Int), undef, undef, .pointer (some ⟨w.heap.size, 0, none⟩), .pointer (some ⟨w.heap.size + 1, 0, none⟩), .pointer (some ⟨w.heap.size + 1 + 1, 0, none⟩), .pointer (some ⟨B.b, 0, none⟩), .pointer (some ⟨w2.heap.size + 1 + 1, 0, none⟩), .pointer (some ⟨bi, 0, none⟩), .pointer (some ⟨Bx, 0, none⟩), .string (bar x.1.2), .bool false, .string s, .bool true, .bool false, .bool false, .int .i64 (bnd : Int), .bool false, .bool false, .int .i64 (bnd : Int), .bool false, .bool false, .bool false, .slice la R.length cap, .int .i64 (R.length : Int), .bool false, .slice la R.length cap, .pointer (some ⟨B.b, 0, none⟩), .map (some w2.heap.size), .agg #[.slice none 0 0, .slice none 0 0, .map (some w2.heap.size)], .pointer (some ⟨w2.heap.size + 1, 0, none⟩), .pointer (some ⟨w2.heap.size + 1, 0, none⟩), .string s, .agg #[.int .i64 (-1), .int .i64 0, .int .i64 0], v3, .int .i64 (ds.length : Int), .pointer (some ⟨w2.heap.size + 1, 0, none⟩), .pointer (some ⟨w2.heap.size + 1, 0, none⟩), .pointer (some ⟨w2.heap.size + 1, 0, none⟩), .slice (some ⟨gw, 0, none⟩) r.length cw, .int .i64 (r.length : Int), .bool true, u44, u45, .pointer (some ⟨B.b, 0, none⟩), .slice la R.length cap, .pointer (some ⟨w2.heap.size + 1, 0, none⟩), .pointer (some ⟨w2.heap.size + 1, 0, none⟩), .pointer (some ⟨w2.heap.size + 1, 0, none⟩), .slice (some ⟨gw, 0, none⟩) r.length cw, .int .i64 (ds.length : Int), .pointer (some ⟨gw, ds.length, none⟩), .string (bar (wordAt r ds.length)), .func (.func 169) #[] #[.pointer (some ⟨Wd.heap.size, 0, none⟩), .pointer (some ⟨Wd.heap.size + 2, 0, none⟩), .pointer (some ⟨Wd.heap.size + 1, 0, none⟩)], .agg #[.int .i64 (x.1.1.1 : Int), .int .i64 (x.1.1.2 : Int)], .string (bar x.1.2), u58, u59, u60, u61, u62, u63, u64, u65, u66, u67, u68, u69, u70, u71, u72], defers := [] })
    ?hAx ?assign ?body ?done ?stop
   case hAx =>
    rintro x a' _ W1 W2 row ⟨Bx, hob, ha⟩ hg hr
    exact ⟨Bx, (Chg.of_grown hg).obj (fun e => by obtain ⟨_, o, ho, hc⟩ := hr _ e; rw [hob] at ho; cases ho; cases hc) hob, ha⟩
   case assign =>
    rintro l pre x W1 K hIp hK
    have hI2 := hIp
    obtain ⟨r', X', q1, q2, q3, q4, q5, q6, q7⟩ := hI2
    have hb1 : X.b < W1.heap.size := by rw [← q3]; exact lt_of_obj q2.hb
    unfold encS
    gi_wp2
    exact hK _ _ ((KeepsOthers.alloc _ _).from _) (kpR_chg (chg_alloc _ _ _) hb1) (OwnFrom.alloc (innerI_own (fun k hk => by have := (hlW k hk).2; omega)) _ hIp) ⟨W1.heap.size, obj_alloc_new _ _, rfl⟩
   case body =>
    rintro l pre x a' W1 hl ⟨rr, hrr⟩ ⟨r', X', q1, q2, q3, q4, q5, q6, q7⟩ ⟨Bx, hob, rfl⟩ hlt
    have hnX' : ∀ k, k < w2.heap.size ∨ k = w2.heap.size + 1 + 1 ∨ k = bi → ¬ X'.own k := fun k hk e => by
     rcases q6 k e with e | e
     ·exact hnX k hk e
     ·rcases hk with hk | rfl | rfl <;> omega
    have m5 := q7.obj (hnX _ (.inl (by omega))) p5
    have m6 := q7.obj (hnX _ (.inl (by omega))) p6
    have m7 := q7.obj (hnX _ (.inl (by omega))) p7
    have m9 := q7.obj (hnX _ (.inr (.inl rfl))) p9
    have mb := q7.obj (hnX _ (.inr (.inr rfl))) pb
    have c9 : W1.cell? ⟨w2.heap.size + 1 + 1, 0, none⟩ = some (.pointer (some ⟨w2.heap.size + 1, 0, none⟩)) := cell_of m9 rfl
    have cb : W1.cell? ⟨bi, 0, none⟩ = some (.int .i64 (ds.length : Int)) := cell_of mb rfl
    have cx0 : W1.cell? ⟨Bx, 0, none⟩ = some (.int .i64 (x.1.1.1 : Int)) := cell_of hob rfl
    have cx1 : W1.cell? ⟨Bx, 1, none⟩ = some (.int .i64 (x.1.1.2 : Int)) := cell_of hob rfl
    have PUT := Lib.hid (rput_any W1 w2.heap.size X' r' (bar x.1.2) (ds.length : Int) x.1.1.1 x.1.1.2 q2 (by rw [← size_list, bar_list]; have := x.2; omega) (by omega))
    rw [q3, HXB2.out, bar_list] at PUT
    gi_wp2_with fail
    refine ⟨trivial, ?_⟩
    (with_reducible refine (CallsIn.inRound l (callsIn_wide.2 PUT.out)).mono ?_)
    rintro e W2 ⟨⟨vv, rfl⟩, X2, z1, z2, z3, z4, z5⟩
    clear PUT
    have hgo := fun hp => inner_go (x := x) q1 hp
    have hover := fun hp => inner_over (x := x) q1 q5 hp
    obtain ⟨p, hp⟩ : ∃ p, p = putR r' (x.1.2, ((ds.length : Int), x.1.1)) := ⟨_, rfl⟩
    replace z3 : RowR W2 w2.heap.size X2 p := by rw [hp]; exact z3
    rw [← hp] at hgo hover
    clear hp
    obtain ⟨aw2, cw2, ew2⟩ := own_shape z3.hw
    have dw2 : W2.cell? ⟨w2.heap.size + 1, 0, none⟩ = some (.slice aw2 p.length cw2) := by rw [← z1, ← ew2]; exact cell_of z3.hb rfl
    have d92 := cell_chg z4 (hnX' _ (.inr (.inl rfl))) c9
    have o52 := z4.obj (hnX' _ (.inl (by omega))) m5
    have d52 : W2.cell? ⟨w.heap.size, 0, none⟩ = some (.int .i64 (bnd : Int)) := cell_of o52 rfl
    have o62 := z4.obj (hnX' _ (.inl (by omega))) m6
    have o72 := z4.obj (hnX' _ (.inl (by omega))) m7
    have kx2 : Chg X.own w5 W2 := q7.next z4 (fun k hk e => by rcases q6 k e with e | e; exact e; omega)
    have EW2 := Lib.hid ew2
    have kpr := kp_row q2 z3 (z1.trans (HXB2.out.symm.trans q3.symm)) z4 z5
    rw [q3] at kpr
    have KPR := Lib.hid kpr
    have Z3 := Lib.hid z3
    have Z5 := Lib.hid (fun k (hk : X2.own k) => show X.own k ∨ w5.heap.size ≤ k from by
     rcases z5 k hk with e | e
     ·exact q6 k e
     ·exact .inr (Nat.le_trans q7.size e))
    have KX2 := Lib.hid kx2
    have Z4 := Lib.hid z4
    have O62 := Lib.hid o62
    have O72 := Lib.hid o72
    have f62 : W2.frozen? ⟨w.heap.size + 1, 0, none⟩ = false := by simp [World.frozen?, o62]
    have f72 : W2.frozen? ⟨w.heap.size + 1 + 1, 0, none⟩ = false := by simp [World.frozen?, o72]
    have d62 : W2.cell? ⟨w.heap.size + 1, 0, none⟩ = some (.pointer none) := cell_of o62 rfl
    have d72 : W2.cell? ⟨w.heap.size + 1 + 1, 0, none⟩ = some (.int .i64 0) := cell_of o72 rfl
    have hbm : X'.bm < w5.heap.size := by rw [q4]; have := (hlW X.bm (.inr (.inl rfl))).2; omega
    have Q2 := Lib.hid q2
    have Z1 := Lib.hid (show X2.b = X.b from z1.trans HXB2.out.symm)
    have Z2 := Lib.hid (show X2.bm = X.bm from z2.trans q4)
    have HGO := Lib.hid hgo
    have HOV := Lib.hid hover
    clear hgo hover kpr z1 z2 z3 z4 z5 kx2 o52 o62 o72 ew2 m5 m6 m7 m9 mb q2 c9 cb cx0 cx1 hob hrr
    have K5S := Lib.hid (show w2.heap.size ≤ w5.heap.size by omega)
    have hmx : Tryz.prog.follows .mixedOrders = true := by kernel_rfl
    by_cases hov : bnd < p.length
    ·have g5 : decide ((bnd : Int) < (p.length : Int)) = true := by rw [decide_eq_true_iff]; omega
     gi_wp2
     gi_region_with_o (fail)
     all_goals gi_wp2
     all_goals refine ⟨keeps_row (S := fun k => X'.own k ∨ k < w2.heap.size) Q2.out hbm ?_ (fun k hk => hk.imp id (fun h => by have := K5S.out; omega)), rfl, HOV.out hov, ?_, ?_, ?_⟩
     all_goals first
      | exact (((Z4.out.mono (fun k _ e => .inl e)).setCell (p := ⟨w.heap.size + 1, 0, none⟩) (fun _ => .inr (by show w.heap.size + 1 < w2.heap.size; omega)) _).setCell (p := ⟨w.heap.size + 1 + 1, 0, none⟩) (fun _ => .inr (by show w.heap.size + 1 + 1 < w2.heap.size; omega)) _).drew
      | exact (((KX2.out.mono (fun k _ e => .inl e)).setCell (p := ⟨w.heap.size + 1, 0, none⟩) (fun _ => .inr (.inl rfl)) _).setCell (p := ⟨w.heap.size + 1 + 1, 0, none⟩) (fun _ => .inr (.inr rfl)) _).drew
      | exact (obj_setCell_ne 0 _ (show w.heap.size + 1 ≠ w.heap.size + 1 + 1 by omega)).trans (obj_setCell O62.out (.pointer none))
      | exact obj_setCell ((obj_setCell_ne 0 _ (show w.heap.size + 1 + 1 ≠ w.heap.size + 1 by omega)).trans O72.out) (.int .i64 12)
    ·have g5 : decide ((bnd : Int) < (p.length : Int)) = false := by rw [decide_eq_false_iff_not]; omega
     gi_wp2
     gi_region_with_o (fail)
     all_goals gi_wp2
     all_goals refine ⟨keeps_row Q2.out hbm (Z4.out.drewN 1) (fun k hk => .inl hk), ?_, p, X2, HGO.out (by omega), RowG.chg Z3.out ((Chg.refl (fun _ => False) W2).drewN 1) (fun _ _ e => e), Z1.out, Z2.out, by omega, Z5.out, KX2.out.drewN 1⟩
     all_goals exact KPR.out.trans (kpR_chg ((Chg.refl (fun _ => False) W2).drewN 1) (by have := KPR.out.size; have := lt_of_obj Z3.out.hb; rw [Z1.out] at this; exact this))
   case done =>
    rintro D ys W1 hD rfl ⟨r', X', q1, q2, q3, q4, q5, q6, q7⟩ hK
    have mb := q7.obj (hnX _ (.inr (.inr rfl))) pb
    have cb : W1.cell? ⟨bi, 0, none⟩ = some (.int .i64 (ds.length : Int)) := cell_of mb rfl
    have Q1 := Lib.hid q1
    have Q2 := Lib.hid q2
    have Q7 := Lib.hid q7
    have HK := Lib.hid hK
    clear q1 q2 q7 hK mb
    go_wp2_with fail
    have OLD := HI.out
    obtain ⟨Ds, hds, hnd, hD1⟩ := OLD.marks
    refine ⟨⟨_, r', X', _, _, _, _, _, _, _, _, _, _, _, _, _, _, _, _, _, _, _, _, _, _, _, _, _, _, _, _, _, _, _, _, _, _, _, _, _, _, _, rfl, Lib.hid ?_⟩, by simp; omega⟩
    have kn : Chg X.own w5 (W1.alloc (.cells #[.int .i64 ((ds.length : Int) + 1)] 3)) := Q7.out.alloc _
    have h5W1 := Q7.out.size
    refine ⟨RowG.chg Q2.out (chg_alloc (fun _ => False) _ _) (fun _ _ e => e), q3.trans OLD.xb, q4.trans OLD.xm, ?_, by simp; omega, q5, ?_, by rw [List.length_cons]; exact obj_alloc_new _ _, by omega, fun e => by have := (RowG.own_lt Q2.out e).2; omega, fun k hk => ?_, ?_, D :: Ds, by rw [hds]; rfl, List.nodup_cons.2 ⟨fun h => by have := lt_of_obj (hD1 D h).2; omega, hnd⟩, fun E hE => ?_⟩
    ·have e := hxs
     rw [bar_list] at e
     rw [OLD.goes, show bnd - ds.length = (bnd - ds.length - 1) + 1 by omega, outerR, if_pos hi, ← e, Q1.out, List.length_cons, show bnd - (ds.length + 1) = bnd - ds.length - 1 by omega]; rfl
    ·intro u hu
     rcases inner_mem Q1.out u hu with h | ⟨h, hh⟩
     ·exact OLD.may u h
     ·rw [hxs] at hh
      exact hst (h, u) hh
    ·rcases q6 k hk with h | h
     ·exact OLD.own k h
     ·exact .inr (by omega)
    ·exact (OLD.chg.next k5 (fun _ _ e => e.elim)).next kn (fun k hk e => (OLD.own k e).resolve_right (by omega))
    ·rcases List.mem_cons.1 hE with rfl | hE
     ·exact ⟨by omega, obj_alloc _ HK.out⟩
     ·obtain ⟨z1, z2⟩ := hD1 E hE
      refine ⟨z1, kn.obj (fun e => ?_) (k5.obj (fun e => e) z2)⟩
      have := row_nocells OLD.row z2 rfl e
      have := (OW3.out X3.bm (.inr (.inl rfl))).2.1
      rw [← OLD.xm] at this
      omega
   case stop =>
    rintro D c pre W1 hD hSp ⟨rfl, y1, y2, y3, y4⟩ hK
    have hnone : rowOf (R.map brul) s.data.toList bnd = none := by
     rw [HI.out.goes, show bnd - ds.length = (bnd - ds.length - 1) + 1 by omega, outerR, if_pos hi]
     have : innerR bnd ds.length (stepsOf (R.map brul) (wordAt r ds.length)) r = none := by
      have e := hxs
      rw [bar_list] at e
      rw [← e]
      exact inner_prefix_none (List.IsPrefix.map _ hSp) y1
     rw [this]; rfl
    have Y2 := Lib.hid y2
    have Y3 := Lib.hid y3
    have Y4 := Lib.hid y4
    have HK := Lib.hid hK
    have HNONE := Lib.hid hnone
    have KW5 := Lib.hid (kW.trans k5)
    clear y1 y2 y3 y4 hK hnone
    gi_wp2
    obtain ⟨Ds, hds, hnd, hD1⟩ := HI.out.marks
    show LeavesInM _ _ _ _ _ _ _ .returning W1
    rw [show ({ target := .collected D, args := #[] } : Deferred) :: ds = (D :: Ds).map (fun D => { target := .collected D, args := #[] }) by rw [hds]; rfl]
    have hge : ∀ E ∈ D :: Ds, w3.heap.size ≤ E := fun E hE => by
     rcases List.mem_cons.1 hE with rfl | hE
     ·omega
     ·exact (hD1 E hE).1
    refine leaves_marks (D :: Ds) W1 (List.nodup_cons.2 ⟨fun h => by have := lt_of_obj (hD1 D h).2; omega, hnd⟩) (fun E hE => ?_) (fun W' hc => ?_)
    ·rcases List.mem_cons.1 hE with rfl | hE
     ·exact HK.out
     ·obtain ⟨z1, z2⟩ := hD1 E hE
      refine Y4.out.obj (fun e => ?_) (k5.obj (fun e => e) z2)
      rcases e with e | rfl | rfl
      ·have := row_nocells HI.out.row z2 rfl e
       have := (OW3.out X3.bm (.inr (.inl rfl))).2.1
       rw [← HI.out.xm] at this
       omega
      ·omega
      ·omega
    ·have v6 := hc.obj (fun e => by have := hge _ e; omega) Y2.out
     have v7 := hc.obj (fun e => by have := hge _ e; omega) Y3.out
     have u6 : W'.cell? ⟨w.heap.size + 1, 0, none⟩ = some (.pointer none) := cell_of v6 rfl
     have u7 : W'.cell? ⟨w.heap.size + 1 + 1, 0, none⟩ = some (.int .i64 12) := cell_of v7 rfl
     refine ⟨.tuple #[.pointer none, .int .i64 12], by rw [results_cell2 rfl]; go_simp, ?_⟩
     refine ⟨(KW5.out.next Y4.out (fun k hk e => ?_)).next hc (fun k hk e => by have := hge _ e; omega), (fun r h => by rw [HNONE.out] at h; cases h), fun _ => rfl⟩
     rcases e with e | rfl | rfl
     ·have := (hlW k e).1; omega
     ·omega
     ·omega
  ·have oW : ∀ k o, k < w2.heap.size → w1.heap[k]? = some o → W.heap[k]? = some o := fun k o hk ho => HI.out.chg.obj (fun e => by have := (OW3.out _ e).1; omega) (K3.out.obj (fun e => e) ho)
   have p6 := oW _ _ (by omega) O6.out
   have p7 := oW _ _ (by omega) O7.out
   have d6 : W.cell? ⟨w.heap.size + 1, 0, none⟩ = some (.pointer none) := cell_of p6 rfl
   have d7 : W.cell? ⟨w.heap.size + 1 + 1, 0, none⟩ = some (.int .i64 0) := cell_of p7 rfl
   have f6 : W.frozen? ⟨w.heap.size + 1, 0, none⟩ = false := by simp [World.frozen?, p6]
   have f7 : W.frozen? ⟨w.heap.size + 1 + 1, 0, none⟩ = false := by simp [World.frozen?, p7]
   go_wp2_with fail
   go_quiet (fail)
   rename_i nq
   go_wp2_with fail
   obtain ⟨Ds, hds, hnd, hD1⟩ := HI.out.marks
   have kW : Chg (fun _ => False) w W := (K1.out.trans K3.out).next HI.out.chg (fun k hk e => by have := (OW3.out k e).1; omega)
   have hsome : rowOf (R.map brul) s.data.toList bnd = some r := by
    rw [HI.out.goes]
    cases hf : bnd - ds.length with
    | zero => rfl
    | succ f => rw [outerR, if_neg hi]
   refine show LeavesInM _ _ _ _ _ _ _ .returning _ from ?_
   generalize hWe : ((W.drewN nq).setCell ⟨w.heap.size + 1, 0, none⟩ (.pointer (some ⟨w2.heap.size + 1, 0, none⟩))).setCell ⟨w.heap.size + 1 + 1, 0, none⟩ (.int .i64 0) = We
   have ke : Chg (fun k => k = w.heap.size + 1 ∨ k = w.heap.size + 1 + 1) W We := by
    rw [← hWe]
    exact ((((Chg.refl _ W).drewN nq).setCell (p := ⟨w.heap.size + 1, 0, none⟩) (fun _ => .inl rfl) _).setCell (p := ⟨w.heap.size + 1 + 1, 0, none⟩) (fun _ => .inr rfl) _)
   have e6 : We.heap[w.heap.size + 1]? = some (.cells #[.pointer (some ⟨w2.heap.size + 1, 0, none⟩)] 206 (0, 0)) := by
    rw [← hWe]
    exact (obj_setCell_ne 0 _ (show w.heap.size + 1 ≠ w.heap.size + 1 + 1 by omega)).trans (obj_setCell (obj_drewN nq p6) (.pointer (some ⟨w2.heap.size + 1, 0, none⟩)))
   have e7 : We.heap[w.heap.size + 1 + 1]? = some (.cells #[.int .i64 0] 32 (0, 0)) := by
    rw [← hWe]
    exact obj_setCell ((obj_setCell_ne 0 _ (show w.heap.size + 1 + 1 ≠ w.heap.size + 1 by omega)).trans (obj_drewN nq p7)) (.int .i64 0)
   have re := RowG.chg HI.out.row ke (fun k hk e => by have := (RowG.own_lt HI.out.row hk).1; rcases e with rfl | rfl <;> omega)
   have s3 := HI.out.chg.size
   show LeavesInM _ _ _ _ _ _ ds .returning We
   rw [hds]
   refine leaves_marks Ds We hnd (fun E hE => ke.obj (fun e => by have := (hD1 E hE).1; rcases e with rfl | rfl <;> omega) (hD1 E hE).2) (fun W' hc => ?_)
   have v6 := hc.obj (fun e => by have := (hD1 _ e).1; omega) e6
   have v7 := hc.obj (fun e => by have := (hD1 _ e).1; omega) e7
   have u6 : W'.cell? ⟨w.heap.size + 1, 0, none⟩ = some (.pointer (some ⟨w2.heap.size + 1, 0, none⟩)) := cell_of v6 rfl
   have u7 : W'.cell? ⟨w.heap.size + 1 + 1, 0, none⟩ = some (.int .i64 0) := cell_of v7 rfl
   refine ⟨.tuple #[.pointer (some ⟨w2.heap.size + 1, 0, none⟩), .int .i64 0], by rw [results_cell2 rfl]; go_simp, ?_⟩
   refine ⟨(kW.next ke (fun k hk e => by rcases e with rfl | rfl <;> omega)).next hc (fun k hk e => by have := (hD1 _ e).1; omega), fun r2 h => ?_, fun h => by rw [hsome] at h; cases h⟩
   rw [hsome] at h
   cases h
   refine ⟨X, by rw [HXB2.out], RowR.down (RowG.chg re hc (fun k hk e => ?_)) (by omega)⟩
   obtain ⟨z1, z2⟩ := hD1 k e
   have := row_nocells HI.out.row z2 rfl hk
   have := (OW3.out X3.bm (.inr (.inl rfl))).2.1
   rw [← HI.out.xm] at this
   omega
end Go.Proofs.YthdfplafihmejaaGreat
