/-
  Package decide: Decide, granted, Explain.
-/
import Derived.Test.YthdfplafihmejaaGreatVExpl
import Derived.Test.YthdfplafihmejaaGreatVPlain2
namespace Go.Proofs.YthdfplafihmejaaGreat
open Go.RowKit Go.Maps

theorem dec_any (w : World) (ra : Option Addr) (R : List BRul) (rc : Nat) (v lv cv : Value) (P : List (BCert × Value)) (L : List BEnt) (op : Int) (c : List ByteArray) (b : Int) (G G2 G3 : Nat → Prop) (hR : RunArgs w ra R rc v P G) (hl : EntsAt w lv G2 L) (hL : L.length ≤ 1000) (hc : WordsAt w cv G3 c) :
  Calls Tryz.prog 31 #[.slice ra R.length rc, v, lv, .int .i64 op, cv, .int .i64 b] w fun e w' => e = .returned (.tuple #[.int .i64 (decE R (certsOf P) L op c b).2.ans, .int .i64 (decE R (certsOf P) L op c b).1]) ∧ Chg (fun _ => False) w w' := by
 have D := Lib.hid (decide_any w ra R rc v lv cv P L op c b G G2 G3 hR hl hL hc)
 obtain ⟨_, _, rfl, _, _⟩ := hl.shape
 obtain ⟨_, _, rfl, _, _⟩ := hR.certs
 obtain ⟨_, _, rfl, _, _⟩ := hc
 generalize decE R (certsOf P) L op c b = q at *
 clear hR hl
 obtain ⟨k, ⟨a1, a2, a3, a4⟩⟩ := q
 go_enter Tryz.func31, Tryz.ntmps31
 go_wp2_with fail
 (with_reducible refine (D.out).mono ?_)
 rintro e w2 ⟨k2, va, vc, rfl, _⟩
 have K := Lib.hid (k2.trans (chg_alloc (fun _ => False) w2 (.cells #[.int .i64 a1, .int .i64 a2, .bool a3, .slice va a4.length vc] 127)))
 go_wp2
 go_ret2
 exact ⟨rfl, K.out⟩
theorem granted_any (w : World) (a n : Int) (s : Bool) (v1 : Option Addr) (v2 v3 : Nat) : Calls Tryz.prog 61 #[.agg #[.int .i64 a, .int .i64 n, .bool s, .slice v1 v2 v3]] w fun e w' => e = .returned (.bool (a == 1)) ∧ Chg (fun _ => False) w w' := by
 have K := Lib.hid (chg_alloc (fun _ => False) w (.cells #[.int .i64 a, .int .i64 n, .bool s, .slice v1 v2 v3] 127))
 go_enter Tryz.func61, Tryz.ntmps61
 go_wp2
 go_ret
 exact ⟨rfl, K.out⟩
/-! a why in memory -/
def ProofsAt (w : World) (v : Value) (G : Nat → Prop) (P : List BProof) : Prop :=
 ∃ la cap, v = .slice la P.length cap ∧ P.length ≤ maxLen ∧ ∀ (j : Nat) p, P[j]? = some p → ∃ lb lo iv sv, la = some ⟨lb, lo, none⟩ ∧ G lb ∧ w.cell? ⟨lb, lo + j * 2, none⟩ = some iv ∧ w.cell? ⟨lb, lo + j * 2 + 1, none⟩ = some sv ∧ ProofAt w iv sv G p
theorem ProofsAt.chg {S : Nat → Prop} {w w' : World} {v : Value} {G : Nat → Prop} {P : List BProof} (h : ProofsAt w v G P) (hc : Chg S w w') (hs : ∀ k, G k → ¬ S k) : ProofsAt w' v G P := by
 obtain ⟨la, cap, h1, h2, h3⟩ := h
 exact ⟨la, cap, h1, h2, fun j p hj => by obtain ⟨lb, lo, iv, sv, q1, q2, q3, q4, q5⟩ := h3 j p hj; exact ⟨lb, lo, iv, sv, q1, q2, cell_chg hc (hs lb q2) q3, cell_chg hc (hs lb q2) q4, q5.chg hc hs⟩⟩
theorem ProofsAt.up {w : World} {v : Value} {G G' : Nat → Prop} {P : List BProof} (h : ProofsAt w v G P) (hg : ∀ k, G k → G' k) : ProofsAt w v G' P := by
 obtain ⟨la, cap, h1, h2, h3⟩ := h
 exact ⟨la, cap, h1, h2, fun j p hj => by obtain ⟨lb, lo, iv, sv, q1, q2, q3, q4, q5⟩ := h3 j p hj; exact ⟨lb, lo, iv, sv, q1, hg _ q2, q3, q4, q5.up hg⟩⟩
theorem ProofsAt.shape {w : World} {v : Value} {G : Nat → Prop} {P : List BProof} (h : ProofsAt w v G P) : ∃ a c, v = .slice a P.length c := by
 obtain ⟨la, cap, h1, _⟩ := h
 exact ⟨la, cap, h1⟩
theorem IntsAt.up17 {w : World} {v : Value} {G G' : Nat → Prop} {l : List Int} (h : IntsAt w v G l) (hg : ∀ k, G k → G' k) : IntsAt w v G' l := by
 obtain ⟨la, cap, h1, h2, h3⟩ := h
 exact ⟨la, cap, h1, h2, fun j x hj => by obtain ⟨g, o, q1, q2, q3⟩ := h3 j x hj; exact ⟨g, o, q1, hg _ q2, q3⟩⟩
structure WhyAt (w : World) (tv pv : Value) (G : Nat → Prop) (y : BWhy) : Prop where
 ways : IntsAt w tv G y.ways
 proofs : ProofsAt w pv G y.proofs
theorem WhyAt.chg {S : Nat → Prop} {w w' : World} {tv pv : Value} {G : Nat → Prop} {y : BWhy} (h : WhyAt w tv pv G y) (hc : Chg S w w') (hs : ∀ k, G k → ¬ S k) : WhyAt w' tv pv G y := ⟨h.ways.chg hc hs, h.proofs.chg hc hs⟩
theorem WhyAt.up {w : World} {tv pv : Value} {G G' : Nat → Prop} {y : BWhy} (h : WhyAt w tv pv G y) (hg : ∀ k, G k → G' k) : WhyAt w tv pv G' y := ⟨h.ways.up17 hg, h.proofs.up hg⟩
theorem whyAt_nil (w : World) (G : Nat → Prop) (i : Int) : WhyAt w (.slice none 0 0) (.slice none 0 0) G ⟨i, [], []⟩ :=
 ⟨⟨none, 0, rfl, by simp, fun j x hj => by simp at hj⟩, ⟨none, 0, rfl, by simp, fun j x hj => by simp at hj⟩⟩
theorem vcells_get : ∀ {Q : List (BProof × Value × Value)} {k : Nat} {z : BProof × Value × Value}, Q[k]? = some z → (vcells Q)[k * 2]? = some z.2.1 ∧ (vcells Q)[k * 2 + 1]? = some z.2.2
 | [], k, z, h => by simp at h
 | a :: t, 0, z, h => by simp at h; subst h; exact ⟨rfl, rfl⟩
 | a :: t, k + 1, z, h => by
  obtain ⟨h1, h2⟩ := vcells_get (Q := t) (k := k) (by simpa using h)
  have e : vcells (a :: t) = [a.2.1, a.2.2] ++ vcells t := by unfold vcells; rw [List.flatMap_cons]
  rw [e]
  exact ⟨by rw [List.getElem?_append_right (by simp; omega)]; simpa [show (k + 1) * 2 - 2 = k * 2 by omega] using h1, by rw [List.getElem?_append_right (by simp; omega)]; simpa [show (k + 1) * 2 + 1 - 2 = k * 2 + 1 by omega] using h2⟩
theorem proofs_own {w : World} {base : Nat} {v : Value} {G : Nat → Prop} {Q : List (BProof × Value × Value)} (h : w.ownsRow base 83 2 v Q.length (vcells Q)) (hs : ∀ z ∈ Q, ProofAt w z.2.1 z.2.2 G z.1) : ProofsAt w v (fun k => G k ∨ v.ownBlock = some k) (Q.map Prod.fst) := by
 have h0 := h
 obtain ⟨h1, ⟨rfl, h2⟩ | ⟨g, cap, cur, rfl, hg, hh, q1, q2, q3, q4⟩⟩ := h
 · refine ⟨none, 0, by rw [List.length_map, h2], by rw [List.length_map, h2]; unfold maxLen; omega, fun j x hj => ?_⟩
   have := (List.getElem?_eq_some_iff.1 hj).1
   rw [List.length_map] at this
   omega
 · refine ⟨_, cap, by rw [List.length_map], by rw [List.length_map]; omega, fun j x hj => ?_⟩
   rw [List.getElem?_map] at hj
   cases hz : Q[j]? with
   | none => rw [hz] at hj; cases hj
   | some z =>
    rw [hz] at hj
    cases hj
    have hjl := (List.getElem?_eq_some_iff.1 hz).1
    obtain ⟨c1, c2⟩ := vcells_get hz
    refine ⟨g, 0, z.2.1, z.2.2, rfl, .inr rfl, ?_, ?_, (hs z (List.mem_of_getElem? hz)).up (fun _ q => .inl q)⟩
    · rw [Nat.zero_add, h0.cellAt (j := j * 2) (by omega)]; exact c1
    · rw [Nat.zero_add, h0.cellAt (j := j * 2 + 1) (by omega)]; exact c2
theorem ints_own {w : World} {base : Nat} {v : Value} {l : List Int} (h : w.ownsRow base 3 1 v l.length (l.map (Value.int .i64))) : IntsAt w v (fun k => v.ownBlock = some k) l := by
 have h0 := h
 obtain ⟨h1, ⟨rfl, h2⟩ | ⟨g, cap, cur, rfl, hg, hh, q1, q2, q3, q4⟩⟩ := h
 · refine ⟨none, 0, by rw [h2], by rw [h2]; unfold maxLen; omega, fun j x hj => ?_⟩
   have := (List.getElem?_eq_some_iff.1 hj).1
   omega
 · refine ⟨_, cap, rfl, by omega, fun j x hj => ⟨g, 0, rfl, rfl, ?_⟩⟩
   have hjl := (List.getElem?_eq_some_iff.1 hj).1
   rw [Nat.zero_add, h0.cellAt (j := j) (by omega), List.getElem?_map, hj]; rfl
theorem set3 {w : World} {b : Nat} {t : TypeId} {x0 x1 x2 : Value} (h : w.heap[b]? = some (.cells #[x0, x1, x2] t (0, 0))) (v0 v1 v2 : Value) (W : World) (hW : W = ((w.setCell ⟨b, 0, none⟩ v0).setCell ⟨b, 1, none⟩ v1).setCell ⟨b, 2, none⟩ v2) : W.heap[b]? = some (.cells #[v0, v1, v2] t (0, 0)) ∧ Chg (· = b) w W := by
 subst hW
 have h0 := obj_setCell (o := 0) h v0
 have h1 := obj_setCell (o := 1) h0 v1
 have h2 := obj_setCell (o := 2) h1 v2
 exact ⟨h2, (((Chg.refl (fun k => k = b) w).setCell (p := ⟨b, 0, none⟩) (fun _ => rfl) _).setCell (p := ⟨b, 1, none⟩) (fun _ => rfl) _).setCell (p := ⟨b, 2, none⟩) (fun _ => rfl) _⟩
def ExpRes (w : World) (q : Int × BWhy × Int) (e : Ending) (w' : World) : Prop := Chg (fun _ => False) w w' ∧
 ∃ tv pv, e = .returned (.tuple #[.int .i64 q.1, .agg #[.int .i64 q.2.1.entry, tv, pv], .int .i64 q.2.2]) ∧ WhyAt w' tv pv (fun k => w.heap.size ≤ k ∧ k < w'.heap.size) q.2.1
set_option maxHeartbeats 8000000 in
set_option maxRecDepth 100000 in
theorem explain_any (w : World) (ra : Option Addr) (R : List BRul) (rc : Nat) (v lv cv : Value) (P : List (BCert × Value)) (L : List BEnt) (op : Int) (c : List ByteArray) (b : Int) (G G2 G3 : Nat → Prop) (hR : RunArgs w ra R rc v P G) (hl : EntsAt w lv G2 L) (hL : L.length ≤ 1000) (hc : WordsAt w cv G3 c) :
  Calls Tryz.prog 32 #[.slice ra R.length rc, v, lv, .int .i64 op, cv, .int .i64 b] w (ExpRes w (explE R (certsOf P) L op c b)) := by
 have k1 := chg_alloc (fun _ => False) w (.cells #[.int .i64 0, .slice none 0 0, .slice none 0 0] 39)
 have O1 := Lib.hid (obj_alloc_new w (.cells #[.int .i64 0, .slice none 0 0, .slice none 0 0] 39))
 have D := Lib.hid (decide_any _ ra R rc v lv cv P L op c b G G2 G3 (hR.chg k1) (hl.chg k1 (fun _ _ e => e)) hL (hc.chg k1 (fun _ _ e => e)))
 have K1 := Lib.hid k1
 have HR := Lib.hid hR
 have HL := Lib.hid hl
 have HC := Lib.hid hc
 have EX := Lib.hid (show explE R (certsOf P) L op c b = if (decE R (certsOf P) L op c b).1 = 0 ∧ (decE R (certsOf P) L op c b).2.ans = 1 then (1, whyE R (certsOf P) L c b (decE R (certsOf P) L op c b).2, 0) else ((decE R (certsOf P) L op c b).2.ans, noWhy, (decE R (certsOf P) L op c b).1) from rfl)
 have BAD := Lib.hid (@decE_bad R (certsOf P) L op c b)
 have GOOD := Lib.hid (@decE_good R (certsOf P) L op c b)
 have GR := Lib.hid (@dec_grant R (certsOf P) L op c b)
 obtain ⟨_, _, rfl, _, _⟩ := hl.shape
 obtain ⟨la, lcap, rfl, hpl, _⟩ := hR.certs
 obtain ⟨_, _, rfl, _, _⟩ := id hc
 generalize explE R (certsOf P) L op c b = ex at *
 generalize decE R (certsOf P) L op c b = q at *
 clear hR hl hc k1
 go_enter Tryz.func32, Tryz.ntmps32
 go_wp2_with fail
 generalize w.alloc (.cells #[.int .i64 0, .slice none 0 0, .slice none 0 0] 39) = w1 at *
 (with_reducible refine (D.out).mono ?_)
 rintro e w2 ⟨k2, va, vc, rfl, hrow⟩
 obtain ⟨k, d⟩ := q
 simp only at hrow
 have HW12 := Lib.hid k2.size
 have kb := chg_alloc (fun _ => False) w2 (.cells #[.int .i64 d.ans, .int .i64 d.entry, .bool d.short, .slice va d.rules.length vc] 127)
 have O3 := Lib.hid (kb.obj (fun e => e) (k2.obj (fun e => e) O1.out))
 have OD := Lib.hid (obj_alloc_new w2 (.cells #[.int .i64 d.ans, .int .i64 d.entry, .bool d.short, .slice va d.rules.length vc] 127))
 have K3 := Lib.hid (K1.out.trans (k2.trans kb))
 have RW := Lib.hid (own_chg hrow kb (fun _ _ e => e))
 have hw0 : w.heap.size < w1.heap.size := lt_of_obj O1.out
 have hk3 := K3.out.size
 clear D k2 kb hrow O1
 by_cases hk : k = 0
 rotate_left
 · as_aux_lemma =>
   have EB := Lib.hid (show ex = (0, noWhy, k) from by
    have h1 : d = noneD := BAD.out hk
    rw [EX.out, if_neg (fun h => hk h.1)]
    simp only
    rw [h1]; rfl)
   have g1 : (k != 0) = true := by rw [bne_iff_ne]; exact hk
   have d0 := cell_of (o := 0) O3.out rfl
   have e0 := frozen_of (o := 0) O3.out
   have d1 := cell_of (o := 1) O3.out rfl
   have e1 := frozen_of (o := 1) O3.out
   have d2 := cell_of (o := 2) O3.out rfl
   have e2 := frozen_of (o := 2) O3.out
   obtain ⟨ans, en, sh, rules⟩ := d
   clear hk EX BAD GOOD GR
   go_wp2
   obtain ⟨W, hW⟩ : ∃ W, W = (((w2.alloc (.cells #[.int .i64 ans, .int .i64 en, .bool sh, .slice va rules.length vc] 127)).setCell ⟨w.heap.size, 0, none⟩ (.int .i64 0)).setCell ⟨w.heap.size, 1, none⟩ (.slice none 0 0)).setCell ⟨w.heap.size, 2, none⟩ (.slice none 0 0) := ⟨_, rfl⟩
   rw [← hW]
   obtain ⟨ob, kW⟩ := set3 O3.out _ _ _ W hW
   clear hW
   have z0 : W.cell? ⟨w.heap.size, 0, none⟩ = some (.int .i64 0) := cell_of ob rfl
   have z1 : W.cell? ⟨w.heap.size, 1, none⟩ = some (.slice none 0 0) := cell_of ob rfl
   have z2 : W.cell? ⟨w.heap.size, 2, none⟩ = some (.slice none 0 0) := cell_of ob rfl
   refine bodyPost_ret (v := .tuple #[.int .i64 0, .agg #[.int .i64 0, .slice none 0 0, .slice none 0 0], .int .i64 k]) (by simp [results, Tryz.results32, go_sem, z0, z1, z2]) rfl ?_
   rw [EB.out]
   exact ⟨K3.out.next kW (fun k hk e => by omega), _, _, rfl, whyAt_nil _ _ _⟩
 subst hk
 by_cases ha : d.ans = 1
 rotate_left
 · as_aux_lemma =>
   have EB := Lib.hid (show ex = (d.ans, noWhy, 0) from by rw [EX.out, if_neg (fun h => ha h.2)])
   have g1 : (d.ans == 1) = false := by rw [beq_eq_false_iff_ne]; exact ha
   have ke := chg_alloc (fun _ => False) (w2.alloc (.cells #[.int .i64 d.ans, .int .i64 d.entry, .bool d.short, .slice va d.rules.length vc] 127)) (.cells #[.int .i64 d.ans, .int .i64 d.entry, .bool d.short, .slice va d.rules.length vc, .int .i64 0, .slice none 0 0, .slice none 0 0] 131)
   have K4 := Lib.hid (K3.out.trans ke)
   have O4 := Lib.hid (ke.obj (fun e => e) O3.out)
   have OE := Lib.hid (obj_alloc_new (w2.alloc (.cells #[.int .i64 d.ans, .int .i64 d.entry, .bool d.short, .slice va d.rules.length vc] 127)) (.cells #[.int .i64 d.ans, .int .i64 d.entry, .bool d.short, .slice va d.rules.length vc, .int .i64 0, .slice none 0 0, .slice none 0 0] 131))
   have GA := granted_any ((w2.alloc (.cells #[.int .i64 d.ans, .int .i64 d.entry, .bool d.short, .slice va d.rules.length vc] 127)).alloc (.cells #[.int .i64 d.ans, .int .i64 d.entry, .bool d.short, .slice va d.rules.length vc, .int .i64 0, .slice none 0 0, .slice none 0 0] 131)) d.ans d.entry d.short va d.rules.length vc
   rw [g1] at GA
   have GA := Lib.hid GA
   obtain ⟨ans, en, sh, rules⟩ := d
   clear ha EX BAD GOOD GR ke g1
   simp only at GA EB K4 O4 OE
   rw [World.size_alloc] at OE
   go_wp2_with fail
   generalize (w2.alloc (.cells #[.int .i64 ans, .int .i64 en, .bool sh, .slice va rules.length vc] 127)).alloc (.cells #[.int .i64 ans, .int .i64 en, .bool sh, .slice va rules.length vc, .int .i64 0, .slice none 0 0, .slice none 0 0] 131) = w4 at *
   (with_reducible refine (GA.out).mono ?_)
   rintro e w5 ⟨rfl, k5⟩
   have K5 := Lib.hid (K4.out.trans k5)
   have O5 := Lib.hid (k5.obj (fun e => e) O4.out)
   have OE5 := Lib.hid (k5.obj (fun e => e) OE.out)
   have d0 := cell_of (o := 0) O5.out rfl
   have e0 := frozen_of (o := 0) O5.out
   have d1 := cell_of (o := 1) O5.out rfl
   have e1 := frozen_of (o := 1) O5.out
   have d2 := cell_of (o := 2) O5.out rfl
   have e2 := frozen_of (o := 2) O5.out
   have x0 := cell_of (o := 0) OE5.out rfl
   clear GA k5 K4 O4 OE
   go_wp2
   obtain ⟨W, hW⟩ : ∃ W, W = ((w5.setCell ⟨w.heap.size, 0, none⟩ (.int .i64 0)).setCell ⟨w.heap.size, 1, none⟩ (.slice none 0 0)).setCell ⟨w.heap.size, 2, none⟩ (.slice none 0 0) := ⟨_, rfl⟩
   rw [← hW]
   obtain ⟨ob, kW⟩ := set3 O5.out _ _ _ W hW
   clear hW
   have z0 : W.cell? ⟨w.heap.size, 0, none⟩ = some (.int .i64 0) := cell_of ob rfl
   have z1 : W.cell? ⟨w.heap.size, 1, none⟩ = some (.slice none 0 0) := cell_of ob rfl
   have z2 : W.cell? ⟨w.heap.size, 2, none⟩ = some (.slice none 0 0) := cell_of ob rfl
   refine bodyPost_ret (v := .tuple #[.int .i64 ans, .agg #[.int .i64 0, .slice none 0 0, .slice none 0 0], .int .i64 0]) (by simp [results, Tryz.results32, go_sem, z0, z1, z2]) rfl ?_
   rw [EB.out]
   exact ⟨K5.out.next kW (fun k hk e => by omega), _, _, rfl, whyAt_nil _ _ _⟩
 obtain ⟨i, x, GX⟩ := GR.out rfl ha
 have EB := Lib.hid (show ex = (1, whyE R (certsOf P) L c b d, 0) from by rw [EX.out, if_pos ⟨rfl, ha⟩])
 have GD := Lib.hid (GOOD.out rfl)
 have GG := Lib.hid GX
 have hen := GX.entry
 have hil := (List.getElem?_eq_some_iff.1 GX.at_).1
 have hxx := GX.at_
 have WE := Lib.hid (show whoE L d.entry = x.2 from whoE_at (by rw [hen]; exact hxx))
 have CF := Lib.hid (show ∀ y ∈ certsOf P, y.fr.length ≤ 16 from fun y hy => (certB_len (List.all_eq_true.1 (listB_iff.1 GD.out.1).2.2 y hy)).2)
 have XL := Lib.hid (show x.2.length ≤ 16 from (setB_len (new_may (listB_iff.1 GD.out.1).2.1 x (List.mem_of_getElem? hxx))).2)
 have RF := Lib.hid (show d.short = false → Few d.rules ∧ (∀ r ∈ d.rules, r.1.size ≤ maxLen ∧ r.2.size ≤ maxLen) from fun hs => by
  rcases GG.out.way with ⟨q, _⟩ | ⟨_, s, q2, q3, _⟩
  · rw [hs] at q; cases q
  · have hn := GD.out.2.2.1
    have few := RunOk.few q2 (fun r hr => ⟨HR.out.size (by omega) r hr, by
     obtain ⟨_, _, _, _, q⟩ := HR.out.rules
     obtain ⟨j, hj⟩ := List.mem_iff_getElem?.1 hr
     obtain ⟨_, _, _, _, _, _, q2⟩ := q j r hj
     exact q2.2⟩)
    rw [q3]
    exact ⟨.inl ⟨few.1, fun r hr => (few.2 r hr).1⟩, fun r hr => ⟨by have := (few.2 r hr).1; unfold maxLen; omega, (few.2 r hr).2⟩⟩)
 have YE := Lib.hid (show whyE R (certsOf P) L c b d = ⟨d.entry, x.2.map (fun x => (toW d b c x : Int)), x.2.map (prfW R (certsOf P) d b c)⟩ from by unfold whyE; rw [WE.out])
 obtain ⟨ans, en, sh, rules⟩ := d
 simp only at ha hen
 subst ha hen
 have ke := chg_alloc (fun _ => False) (w2.alloc (.cells #[.int .i64 1, .int .i64 (i : Int), .bool sh, .slice va rules.length vc] 127)) (.cells #[.int .i64 1, .int .i64 (i : Int), .bool sh, .slice va rules.length vc, .int .i64 0, .slice none 0 0, .slice none 0 0] 131)
 have K4 := Lib.hid (K3.out.trans ke)
 have O4 := Lib.hid (ke.obj (fun e => e) O3.out)
 have oe := obj_alloc_new (w2.alloc (.cells #[.int .i64 1, .int .i64 (i : Int), .bool sh, .slice va rules.length vc] 127)) (.cells #[.int .i64 1, .int .i64 (i : Int), .bool sh, .slice va rules.length vc, .int .i64 0, .slice none 0 0, .slice none 0 0] 131)
 have GA := Lib.hid (granted_any ((w2.alloc (.cells #[.int .i64 1, .int .i64 (i : Int), .bool sh, .slice va rules.length vc] 127)).alloc (.cells #[.int .i64 1, .int .i64 (i : Int), .bool sh, .slice va rules.length vc, .int .i64 0, .slice none 0 0, .slice none 0 0] 131)) 1 (i : Int) sh va rules.length vc)
 have RW4 := Lib.hid (own_chg RW.out ke (fun _ _ e => e))
 obtain ⟨bx, hbx⟩ : ∃ bx, bx = w2.heap.size + 1 := ⟨_, rfl⟩
 rw [World.size_alloc, ← hbx] at oe
 have OE := Lib.hid oe
 have BXL := Lib.hid (show w2.heap.size + 1 ≤ bx from by omega)
 have g1 : ((1 : Int) == 1) = true := rfl
 clear EX BAD GOOD GR ke oe GX hxx K3 O3 OD RW
 go_wp2_with fail
 rw [← hbx]
 clear hbx
 generalize (w2.alloc (.cells #[.int .i64 1, .int .i64 (i : Int), .bool sh, .slice va rules.length vc] 127)).alloc (.cells #[.int .i64 1, .int .i64 (i : Int), .bool sh, .slice va rules.length vc, .int .i64 0, .slice none 0 0, .slice none 0 0] 131) = w4 at *
 (with_reducible refine (GA.out).mono ?_)
 rintro e w5 ⟨rfl, k5⟩
 have K5 := Lib.hid (K4.out.trans k5)
 have O5 := Lib.hid (k5.obj (fun e => e) O4.out)
 have OE5 := Lib.hid (k5.obj (fun e => e) OE.out)
 have RW5 := Lib.hid (own_chg RW4.out k5 (fun _ _ e => e))
 have x1 := cell_of (o := 1) OE5.out rfl
 have x4 := cell_of (o := 4) OE5.out rfl
 have f4 := frozen_of (o := 4) OE5.out
 have kc := chg_cell w5 bx 4 (.int .i64 (i : Int))
 have O6 := Lib.hid (kc.obj (fun e => by have := BXL.out; have := HW12.out; omega) O5.out)
 have K6 := Lib.hid (K5.out.next kc (fun k hk e => by have := BXL.out; have := HW12.out; omega))
 have RW6 := Lib.hid (own_chg RW5.out kc (fun k hk e => by
  obtain ⟨cs, q⟩ := own_cells RW5.out hk
  exact ty_ne13 q OE5.out (by decide) e))
 have E6 := Lib.hid (show ExIn w1.heap.size bx (w5.setCell ⟨bx, 4, none⟩ (.int .i64 (i : Int))) ⟨1, i, sh, rules⟩ va vc i (.slice none 0 0) (.slice none 0 0) [] [] (fun _ => False) from
  ⟨obj_setCell (o := 4) OE5.out _, World.ownsRow_nil _ _ _ _, World.ownsRow_nil _ _ _ _, fun z hz => (by cases hz), fun k hk => hk.elim⟩)
 obtain ⟨g, o, sa, sc, hla, _, d0', d1', hs⟩ := HL.out.get GG.out.at_
 cases hla
 have d1 := cell_chg K6.out (fun e => e) d1'
 have HS := Lib.hid hs
 have HB6 := Lib.hid (show w1.heap.size ≤ (w5.setCell ⟨bx, 4, none⟩ (.int .i64 (i : Int))).heap.size from by
  have h1 := BXL.out
  have h2 := HW12.out
  have h3 := lt_of_obj OE5.out
  have h4 := kc.size
  omega)
 have hxl := XL.out
 clear GA k5 K4 O4 OE RW4 O5 OE5 RW5 kc hs K5 d0' d1'
 have hil2 : (i : Int) < (L.length : Int) := by omega
 go_wp2_with fail
 generalize w5.setCell ⟨bx, 4, none⟩ (.int .i64 (i : Int)) = w6 at *
 clear x1 x4 f4 d1
 generalize hdd : (⟨1, (i : Int), sh, rules⟩ : DDec) = d at *
 have HDD := Lib.hid hdd
 clear hdd
 go_loopw [58] (fun iv wr => ∃ (k : Nat) (tv pv : Value) (T : List Int) (Q : List (BProof × Value × Value)) (Gq : Nat → Prop), k ≤ x.2.length ∧ iv = .int .i64 k ∧ Hid (ExIn w1.heap.size bx wr d va vc i tv pv T Q Gq) ∧ Hid (T = (x.2.take k).map (fun x => (toW d b c x : Int)) ∧ Q.map Prod.fst = (x.2.take k).map (prfW R (certsOf P) d b c)) ∧ Hid (Chg (fun k => w1.heap.size ≤ k) w6 wr ∧ wr.ownsRow w1.heap.size 66 2 (.slice va rules.length vc) rules.length (ruleCells rules))) (fun iv _ => x.2.length - (intOf iv).toNat)
 case atStart => exact ⟨0, _, _, [], [], _, by omega, rfl, E6, Lib.hid ⟨rfl, rfl⟩, Lib.hid ⟨Chg.refl _ _, RW6.out⟩⟩
 case round =>
  obtain ⟨k, tv, pv, T, Q, Gq, hk, rfl, HE, HT, HK⟩ := hrel
  have KWR := Lib.hid (K6.out.next HK.out.1 (fun k hk e => by omega))
  by_cases hlt : k < x.2.length
  · as_aux_lemma =>
    obtain ⟨y, hy⟩ : ∃ y, x.2[k]? = some y := ⟨_, List.getElem?_eq_getElem hlt⟩
    have hym := List.mem_of_getElem? hy
    obtain ⟨_, _, e1, _, hws⟩ := (HS.out.chg KWR.out (fun _ _ e => e)).at_
    cases e1
    obtain ⟨lb, lo, rfl, _, c0, hys⟩ := hws k y hy
    have TL := congrArg List.length HT.out.1
    have QL := congrArg List.length HT.out.2
    rw [List.length_map, List.length_take] at TL
    rw [List.length_map, List.length_map, List.length_take] at QL
    have hrl : d.rules = rules := by rw [← HDD.out]
    have hsh : d.short = sh := by rw [← HDD.out]
    have hsz : w1.heap.size ≤ wr.heap.size := Nat.le_trans HB6.out HK.out.1.size
    have AV := Lib.hid (addV_any w1.heap.size bx wr d va vc i tv pv T Q Gq ra R rc _ _ P c G G3 y b HE.out (HR.out.chg KWR.out) (fun z hz => by have := CF.out z hz; omega) (HC.out.chg KWR.out (fun _ _ e => e)) hys hsz (by omega) (by omega) (granted_to GG.out hym).1
     (fun hs => ⟨⟨by rw [hrl]; exact rulesAt_own HK.out.2 (RF.out (by rw [← hsh]; exact hs)).2, by rw [hrl]; exact (RF.out (by rw [← hsh]; exact hs)).1⟩, (granted_to GG.out hym).2.1 hs⟩) (fun hs => by
      obtain ⟨s, v, _, _, _, _, e⟩ := granted_make GG.out hym hs
      rw [e]))
    have NT := Lib.hid (show T ++ [(toW d b c y : Int)] = (x.2.take (k + 1)).map (fun x => (toW d b c x : Int)) from by rw [List.take_add_one, hy, HT.out.1]; simp)
    have NQ := Lib.hid (fun z : Value × Value => show (Q ++ [(prfW R (certsOf P) d b c y, z)]).map Prod.fst = (x.2.take (k + 1)).map (prfW R (certsOf P) d b c) from by rw [List.take_add_one, hy, List.map_append, HT.out.2]; simp)
    have TLT := Lib.hid (fun k (e : tv.ownBlock = some k) => HE.out.tos.lt k e)
    have QLT := Lib.hid (fun k (e : pv.ownBlock = some k) => HE.out.prf.lt k e)
    have RNE := Lib.hid (fun k (e : (Value.slice va rules.length vc).ownBlock = some k) => show ¬ (k = bx ∨ tv.ownBlock = some k ∨ pv.ownBlock = some k) from fun q => by
     obtain ⟨cs, h1⟩ := own_cells HK.out.2 e
     rcases q with q | q | q
     · exact ty_ne13 h1 HE.out.obj (by decide) q
     · obtain ⟨ds, h2⟩ := own_cells HE.out.tos q
       exact ty_ne13 h1 h2 (by decide) rfl
     · obtain ⟨ds, h2⟩ := own_cells HE.out.prf q
       exact ty_ne13 h1 h2 (by decide) rfl)
    have BXW := Lib.hid (show w1.heap.size ≤ bx from by have := BXL.out; have := HW12.out; omega)
    clear hws hy hym TL QL hrl hsh HE HT
    go_wp2_with fail
    clear c0
    (with_reducible refine (AV.out).mono ?_)
    rintro e w7 ⟨rfl, k7, tv', pv', G', iv', sv', E7⟩
    have HE7 := Lib.hid E7
    have HK7 := Lib.hid (And.intro (HK.out.1.trans (k7.mono (fun k _ e => by
     rcases e with e | e | e
     · have := BXW.out; omega
     · exact (TLT.out k e).1
     · exact (QLT.out k e).1))) (own_chg HK.out.2 k7 (fun k hk e => RNE.out k hk e)))
    clear E7 k7 AV
    go_wp2
    go_roundw
    case rel => exact ⟨k + 1, tv', pv', _, _, G', by omega, by go_num, HE7, Lib.hid ⟨NT.out, NQ.out _⟩, HK7⟩
    case measure => simp [intOf]; omega
  · as_aux_lemma =>
    obtain rfl : k = x.2.length := by omega
    have OW := Lib.hid (show wr.heap[w.heap.size]? = some (.cells #[.int .i64 0, .slice none 0 0, .slice none 0 0] 39 (0, 0)) from HK.out.1.obj (fun e => by omega) O6.out)
    have TT := Lib.hid (show T = x.2.map (fun x => (toW d b c x : Int)) from by rw [HT.out.1, List.take_length])
    have QQ := Lib.hid (show Q.map Prod.fst = x.2.map (prfW R (certsOf P) d b c) from by rw [HT.out.2, List.take_length])
    obtain ⟨ta, tc, rfl⟩ := own_shape HE.out.tos
    obtain ⟨qa, qc, rfl⟩ := own_shape HE.out.prf
    have hda : d.ans = 1 := by rw [← HDD.out]
    have obx := HE.out.obj
    rw [hda] at obx
    have OBX := Lib.hid obx
    have x0 := cell_of (o := 0) obx rfl
    have x4 := cell_of (o := 4) obx rfl
    have x5 := cell_of (o := 5) obx rfl
    have x6 := cell_of (o := 6) obx rfl
    clear hda obx HT
    go_wp2_with fail
    refine wp_region_plan (N := 78) [.rd [0, 1, 2, 3, 4, 5], .ef 6, .rd [7]] (fun W => W.cell? ⟨bx, 0, none⟩ = some (.int .i64 1) ∧ W.cell? ⟨bx, 4, none⟩ = some (.int .i64 (i : Int)) ∧ W.cell? ⟨bx, 5, none⟩ = some (.slice ta T.length tc) ∧ W.cell? ⟨bx, 6, none⟩ = some (.slice qa Q.length qc)) (by kernel_rfl) (by kernel_rfl) (by kernel_rfl) (by kernel_rfl) (Nat.le_of_ble_eq_true rfl) ⟨x0, x4, x5, x6⟩ ?_
    refine plan_rd (A := ?A1) ?h1 ?h2
    case h1 =>
     rintro w' ⟨y0, y1, y2, y3⟩ K hK
     simp only [opsAt, List.filterMap_cons, List.filterMap_nil, List.getElem?_toArray, List.getElem?_cons_succ, List.getElem?_cons_zero]
     repeat still_step
     refine wpStill_nil ?_
     exact hK
    have kd := chg_drew (fun _ => False) wr
    have ED := Lib.hid (HE.out.chg kd)
    have OWD := Lib.hid (kd.obj (fun e => e) OW.out)
    have OBD := Lib.hid (kd.obj (fun e => e) OBX.out)
    have KD := Lib.hid (KWR.out.trans kd)
    clear kd HE OW OBX x0 x4 x5 x6 HK KWR
    generalize wr.drew = wd at *
    have d0 := cell_of (o := 0) OWD.out rfl
    have e0 := frozen_of (o := 0) OWD.out
    have d1 := cell_of (o := 1) OWD.out rfl
    have e1 := frozen_of (o := 1) OWD.out
    have d2 := cell_of (o := 2) OWD.out rfl
    have e2 := frozen_of (o := 2) OWD.out
    refine plan_ef rfl ?_
    go_wp2_with fail
    obtain ⟨W, hW⟩ : ∃ W, W = ((wd.setCell ⟨w.heap.size, 0, none⟩ (.int .i64 (i : Int))).setCell ⟨w.heap.size, 1, none⟩ (.slice ta T.length tc)).setCell ⟨w.heap.size, 2, none⟩ (.slice qa Q.length qc) := ⟨_, rfl⟩
    rw [← hW]
    obtain ⟨ob, kW⟩ := set3 OWD.out _ _ _ W hW
    clear hW d0 e0 d1 e1 d2 e2
    have nbx : ¬ bx = w.heap.size := by have := BXL.out; have := HW12.out; omega
    have obx := kW.obj nbx OBD.out
    refine ⟨⟨cell_of (o := 0) obx rfl, cell_of (o := 4) obx rfl, cell_of (o := 5) obx rfl, cell_of (o := 6) obx rfl⟩, ?_⟩
    clear obx
    refine plan_rd (A := ?A2) ?h3 ?h4
    case h3 =>
     intro w' hS K hK
     clear hS
     simp only [opsAt, List.filterMap_cons, List.filterMap_nil, List.getElem?_toArray, List.getElem?_cons_succ, List.getElem?_cons_zero]
     repeat still_step
     refine wpStill_nil ?_
     exact hK
    refine plan_nil ?_
    have z0 : W.cell? ⟨w.heap.size, 0, none⟩ = some (.int .i64 (i : Int)) := cell_of ob rfl
    have z1 : W.cell? ⟨w.heap.size, 1, none⟩ = some (.slice ta T.length tc) := cell_of ob rfl
    have z2 : W.cell? ⟨w.heap.size, 2, none⟩ = some (.slice qa Q.length qc) := cell_of ob rfl
    have KF := Lib.hid (KD.out.next kW (fun k hk e => by omega))
    have KWZ := Lib.hid kW
    clear kW
    go_wp2_with fail
    refine bodyPost_ret (v := .tuple #[.int .i64 1, .agg #[.int .i64 (i : Int), .slice ta T.length tc, .slice qa Q.length qc], .int .i64 0]) (by simp [results, Tryz.results32, go_sem, z0, z1, z2]) rfl ?_
    rw [EB.out, YE.out]
    refine ⟨KF.out, _, _, rfl, ?_, ?_⟩
    · simp only
      rw [← TT.out]
      exact ((ints_own ED.out.tos).chg KWZ.out (fun k hk e => by have := (ED.out.tos.lt k hk).1; omega)).up17 (fun k hk => ⟨by have := (ED.out.tos.lt k hk).1; omega, Nat.lt_of_lt_of_le (ED.out.tos.lt k hk).2 KWZ.out.size⟩)
    · simp only
      rw [← QQ.out]
      have hp := proofs_own ED.out.prf ED.out.ent
      have hlt : ∀ k, (Gq k ∨ (Value.slice qa Q.length qc).ownBlock = some k) → w1.heap.size ≤ k ∧ k < wd.heap.size := fun k hk => hk.elim (fun q => ⟨(ED.out.gap k q).1, (ED.out.gap k q).2.1⟩) (fun q => ED.out.prf.lt k q)
      exact (hp.chg KWZ.out (fun k hk e => by have := (hlt k hk).1; omega)).up (fun k hk => ⟨by have := (hlt k hk).1; omega, Nat.lt_of_lt_of_le (hlt k hk).2 KWZ.out.size⟩)
end Go.Proofs.YthdfplafihmejaaGreat
