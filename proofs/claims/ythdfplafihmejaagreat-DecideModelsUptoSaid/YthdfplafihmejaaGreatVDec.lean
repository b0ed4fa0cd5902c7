/-
  Package decide: decide, Decide.
-/
import Derived.Test.YthdfplafihmejaaGreatVShort
import Derived.Test.YthdfplafihmejaaGreatURun
namespace Go.Proofs.YthdfplafihmejaaGreat
open Go.RowKit Go.Maps

theorem set4 {w : World} {b : Nat} {t : TypeId} {x0 x1 x2 x3 : Value} (h : w.heap[b]? = some (.cells #[x0, x1, x2, x3] t (0, 0))) (v0 v1 v2 v3 : Value) (W : World) (hW : W = ((((w.setCell ⟨b, 0, none⟩ v0).setCell ⟨b, 1, none⟩ v1).setCell ⟨b, 2, none⟩ v2).setCell ⟨b, 3, none⟩ v3)) :
  W.heap[b]? = some (.cells #[v0, v1, v2, v3] t (0, 0)) ∧ Chg (· = b) w W := by
 subst hW
 have h0 := obj_setCell (o := 0) h v0
 have h1 := obj_setCell (o := 1) h0 v1
 have h2 := obj_setCell (o := 2) h1 v2
 have h3 := obj_setCell (o := 3) h2 v3
 exact ⟨h3, ((((Chg.refl (fun k => k = b) w).setCell (p := ⟨b, 0, none⟩) (fun _ => rfl) _).setCell (p := ⟨b, 1, none⟩) (fun _ => rfl) _).setCell (p := ⟨b, 2, none⟩) (fun _ => rfl) _).setCell (p := ⟨b, 3, none⟩) (fun _ => rfl) _⟩
def DecRes (w : World) (q : Int × DDec) (e : Ending) (w' : World) : Prop := Chg (fun _ => False) w w' ∧
 ∃ va vc, e = .returned (.tuple #[.agg #[.int .i64 q.2.ans, .int .i64 q.2.entry, .bool q.2.short, .slice va q.2.rules.length vc], .int .i64 q.1]) ∧ w'.ownsRow w.heap.size 66 2 (.slice va q.2.rules.length vc) q.2.rules.length (ruleCells q.2.rules)
theorem decRes_none {w w' : World} {k a n : Int} {s : Bool} (hc : Chg (fun _ => False) w w') : DecRes w (k, ⟨a, n, s, []⟩) (.returned (.tuple #[.agg #[.int .i64 a, .int .i64 n, .bool s, .slice none 0 0], .int .i64 k])) w' :=
 ⟨hc, none, 0, rfl, World.ownsRow_nil _ _ _ _⟩
theorem need_snoc {C : List BCert} {k : Nat} {x : BCert} (h : C[k]? = some x) : needE (C.take (k + 1)) = needE (C.take k) + x.fr.length := by
 unfold needE
 rw [List.take_add_one, h]; simp
theorem argB_eq (op b : Int) : argB op b = (opB op && (decide (1 ≤ b) && decide (b ≤ 5000))) := rfl
theorem decE_form {R : List BRul} {C : List BCert} {L : List BEnt} {op : Int} {c : List ByteArray} {b : Int} (h : listB C L c = false) : decE R C L op c b = (2, noneD) := by unfold decE; rw [if_neg (by rw [h]; decide)]
theorem decE_arg {R : List BRul} {C : List BCert} {L : List BEnt} {op : Int} {c : List ByteArray} {b : Int} (h : listB C L c = true) (h2 : argB op b = false) : decE R C L op c b = (1, noneD) := by unfold decE; rw [if_pos h, if_neg (by rw [h2]; decide)]
theorem decE_many {R : List BRul} {C : List BCert} {L : List BEnt} {op : Int} {c : List ByteArray} {b : Int} (h : listB C L c = true) (h2 : argB op b = true) (h3 : 400 < R.length + needE C) : decE R C L op c b = (3, noneD) := by unfold decE; rw [if_pos h, if_pos h2, if_pos h3]
theorem decE_short {R : List BRul} {C : List BCert} {L : List BEnt} {op : Int} {c : List ByteArray} {b : Int} (h : listB C L c = true) (h2 : argB op b = true) (h3 : ¬ 400 < R.length + needE C) (h4 : shortI op c L < L.length) : decE R C L op c b = (0, ⟨1, (shortI op c L : Int), true, []⟩) := by unfold decE; rw [if_pos h, if_pos h2, if_neg h3, if_pos h4]
theorem decE_run {R : List BRul} {C : List BCert} {L : List BEnt} {op : Int} {c : List ByteArray} {b : Int} (h : listB C L c = true) (h2 : argB op b = true) (h3 : ¬ 400 < R.length + needE C) (h4 : ¬ shortI op c L < L.length) : decE R C L op c b = (0, runD R C L op c b) := by unfold decE; rw [if_pos h, if_pos h2, if_neg h3, if_neg h4]
set_option maxHeartbeats 8000000 in
set_option maxRecDepth 100000 in
theorem decide_any (w : World) (ra : Option Addr) (R : List BRul) (rc : Nat) (v lv cv : Value) (P : List (BCert × Value)) (L : List BEnt) (op : Int) (c : List ByteArray) (b : Int) (G G2 G3 : Nat → Prop) (hR : RunArgs w ra R rc v P G) (hl : EntsAt w lv G2 L) (hL : L.length ≤ 1000) (hc : WordsAt w cv G3 c) :
  Calls Tryz.prog 60 #[.slice ra R.length rc, v, lv, .int .i64 op, cv, .int .i64 b] w (DecRes w (decE R (certsOf P) L op c b)) := by
 have k0 := chg_alloc (fun _ => False) w (.cells #[.int .i64 0, .int .i64 0, .bool false, .slice none 0 0] 127)
 have O0 := Lib.hid (obj_alloc_new w (.cells #[.int .i64 0, .int .i64 0, .bool false, .slice none 0 0] 127))
 have LI := Lib.hid (list_any _ v lv cv P L c G G2 G3 (hR.certs.chg k0 (fun _ _ e => e)) (hl.chg k0 (fun _ _ e => e)) (hc.chg k0 (fun _ _ e => e)) hL)
 have K0 := Lib.hid k0
 have HR := Lib.hid hR
 have SHO := Lib.hid (fun W (k : Chg (fun _ => False) w W) (h : c.length ≤ 1000) => short_any W lv L op cv c G2 G3 (hl.chg k (fun _ _ e => e)) (hc.chg k (fun _ _ e => e)) h)
 have ASK := Lib.hid (fun W (k : Chg (fun _ => False) w W) b0 ty Gl rv S (hla : ListAt W b0 ty Gl L 0) (hS : RulesAt W rv (· < W.heap.size) S) (hf : Few S) (h0 : askBad S b c op = 0) => ask_ok W b0 ty L 0 rv cv S c op b Gl G3 hla hL hS hf (hc.chg k (fun _ _ e => e)) h0)
 obtain ⟨_, _, rfl, _, _⟩ := hl.shape
 obtain ⟨la, lcap, rfl, hpl, _⟩ := hR.certs
 obtain ⟨_, _, rfl, _, _⟩ := hc
 have hRl := hR.many
 have hPl := hR.few
 have CL := Lib.hid (certsOf_length P)
 have CG := Lib.hid (fun k p (h : P[k]? = some p) => certsOf_get h)
 clear hR hl k0
 go_enter Tryz.func60, Tryz.ntmps60
 go_wp2_with fail
 have hs01 : w.heap.size < (w.alloc (.cells #[.int .i64 0, .int .i64 0, .bool false, .slice none 0 0] 127)).heap.size := by rw [World.size_alloc]; omega
 generalize w.alloc (.cells #[.int .i64 0, .int .i64 0, .bool false, .slice none 0 0] 127) = w1 at *
 (with_reducible refine (LI.out).mono ?_)
 rintro e w2 ⟨k2, hgood, hbad⟩
 have K2 := Lib.hid (K0.out.trans k2)
 have O2 := Lib.hid (k2.obj (fun e => e) O0.out)
 have d0 := cell_of (o := 0) O2.out rfl
 have e0 := frozen_of (o := 0) O2.out
 have d1 := cell_of (o := 1) O2.out rfl
 have e1 := frozen_of (o := 1) O2.out
 have d2 := cell_of (o := 2) O2.out rfl
 have e2 := frozen_of (o := 2) O2.out
 have d3 := cell_of (o := 3) O2.out rfl
 have e3 := frozen_of (o := 3) O2.out
 clear LI
 cases hlb : listB (certsOf P) L c with
 | false =>
  as_aux_lemma =>
  obtain rfl := hbad hlb
  have RD := Lib.hid (decE_form (R := R) (op := op) (b := b) hlb)
  clear hgood hbad hlb k2
  go_wp2
  obtain ⟨W, hW⟩ : ∃ W, W = (((w2.setCell ⟨w.heap.size, 0, none⟩ (.int .i64 0)).setCell ⟨w.heap.size, 1, none⟩ (.int .i64 0)).setCell ⟨w.heap.size, 2, none⟩ (.bool false)).setCell ⟨w.heap.size, 3, none⟩ (.slice none 0 0) := ⟨_, rfl⟩
  rw [← hW]
  obtain ⟨ob, kW⟩ := set4 O2.out _ _ _ _ W hW
  clear hW
  have z0 : W.cell? ⟨w.heap.size, 0, none⟩ = some (.int .i64 0) := cell_of ob rfl
  have z1 : W.cell? ⟨w.heap.size, 1, none⟩ = some (.int .i64 0) := cell_of ob rfl
  have z2 : W.cell? ⟨w.heap.size, 2, none⟩ = some (.bool false) := cell_of ob rfl
  have z3 : W.cell? ⟨w.heap.size, 3, none⟩ = some (.slice none 0 0) := cell_of ob rfl
  refine bodyPost_ret (v := .tuple #[.agg #[.int .i64 0, .int .i64 0, .bool false, .slice none 0 0], .int .i64 2]) (by simp [results, Tryz.results60, go_sem, z0, z1, z2, z3]) rfl ?_
  rw [RD.out]
  exact decRes_none (K2.out.next kW (fun k hk e => by omega))
 | true =>
 obtain ⟨b0, rfl, hb0, hla⟩ := hgood hlb
 have LB := Lib.hid hlb
 have hcl : c.length ≤ 1000 := by have := (setB_len (listB_iff.1 hlb).1).2; omega
 have HB0 := Lib.hid (Nat.le_trans (Nat.le_of_lt hs01) hb0)
 have HLA := Lib.hid hla
 clear hbad hgood hlb hb0 hla k2
 have OP := Lib.hid (op_any w2 op)
 have SAR := Lib.hid (argB_eq op b)
 by_cases har : argB op b = true
 rotate_left
 · as_aux_lemma =>
   have RD := Lib.hid (decE_arg (R := R) LB.out (show argB op b = false from by simpa using har))
   have AR := Lib.hid (show argB op b = false from by simpa using har)
   clear har
   have fin : ∀ (o1 o2 o3 : Bool), opB op = o1 → decide (1 ≤ b) = o2 → decide (b ≤ 5000) = o3 → (o1 && (o2 && o3)) = false → True := fun _ _ _ _ _ _ _ => trivial
   have OPX := Lib.hid (show opB op = true ∧ decide (1 ≤ b) = true ∧ decide (b ≤ 5000) = true → False from fun ⟨q1, q2, q3⟩ => by have := AR.out; rw [SAR.out, q1, q2, q3] at this; cases this)
   clear fin SAR AR
   generalize opB op = o1 at *
   cases o1 with
   | false =>
    clear OPX
    go_wp2_with fail
    (with_reducible refine (OP.out).mono ?_)
    rintro e w3 ⟨rfl, rfl⟩
    clear OP
    go_wp2
    obtain ⟨W, hW⟩ : ∃ W, W = (((w2.setCell ⟨w.heap.size, 0, none⟩ (.int .i64 0)).setCell ⟨w.heap.size, 1, none⟩ (.int .i64 0)).setCell ⟨w.heap.size, 2, none⟩ (.bool false)).setCell ⟨w.heap.size, 3, none⟩ (.slice none 0 0) := ⟨_, rfl⟩
    rw [← hW]
    obtain ⟨ob, kW⟩ := set4 O2.out _ _ _ _ W hW
    clear hW
    have z0 : W.cell? ⟨w.heap.size, 0, none⟩ = some (.int .i64 0) := cell_of ob rfl
    have z1 : W.cell? ⟨w.heap.size, 1, none⟩ = some (.int .i64 0) := cell_of ob rfl
    have z2 : W.cell? ⟨w.heap.size, 2, none⟩ = some (.bool false) := cell_of ob rfl
    have z3 : W.cell? ⟨w.heap.size, 3, none⟩ = some (.slice none 0 0) := cell_of ob rfl
    refine bodyPost_ret (v := .tuple #[.agg #[.int .i64 0, .int .i64 0, .bool false, .slice none 0 0], .int .i64 1]) (by simp [results, Tryz.results60, go_sem, z0, z1, z2, z3]) rfl ?_
    rw [RD.out]
    exact decRes_none (K2.out.next kW (fun k hk e => by omega))
   | true =>
   by_cases h1 : 1 ≤ b
   · have h2 : ¬ b ≤ 5000 := fun h2 => OPX.out ⟨rfl, decide_eq_true h1, decide_eq_true h2⟩
     have g1 : decide (b < 1) = false := decide_eq_false (by omega)
     have g2 : decide (5000 < b) = true := decide_eq_true (by omega)
     clear OPX h1 h2
     go_wp2_with fail
     (with_reducible refine (OP.out).mono ?_)
     rintro e w3 ⟨rfl, rfl⟩
     clear OP
     go_wp2
     obtain ⟨W, hW⟩ : ∃ W, W = (((w2.setCell ⟨w.heap.size, 0, none⟩ (.int .i64 0)).setCell ⟨w.heap.size, 1, none⟩ (.int .i64 0)).setCell ⟨w.heap.size, 2, none⟩ (.bool false)).setCell ⟨w.heap.size, 3, none⟩ (.slice none 0 0) := ⟨_, rfl⟩
     rw [← hW]
     obtain ⟨ob, kW⟩ := set4 O2.out _ _ _ _ W hW
     clear hW
     have z0 : W.cell? ⟨w.heap.size, 0, none⟩ = some (.int .i64 0) := cell_of ob rfl
     have z1 : W.cell? ⟨w.heap.size, 1, none⟩ = some (.int .i64 0) := cell_of ob rfl
     have z2 : W.cell? ⟨w.heap.size, 2, none⟩ = some (.bool false) := cell_of ob rfl
     have z3 : W.cell? ⟨w.heap.size, 3, none⟩ = some (.slice none 0 0) := cell_of ob rfl
     refine bodyPost_ret (v := .tuple #[.agg #[.int .i64 0, .int .i64 0, .bool false, .slice none 0 0], .int .i64 1]) (by simp [results, Tryz.results60, go_sem, z0, z1, z2, z3]) rfl ?_
     rw [RD.out]
     exact decRes_none (K2.out.next kW (fun k hk e => by omega))
   · have g1 : decide (b < 1) = true := decide_eq_true (by omega)
     clear OPX h1
     go_wp2_with fail
     (with_reducible refine (OP.out).mono ?_)
     rintro e w3 ⟨rfl, rfl⟩
     clear OP
     go_wp2
     obtain ⟨W, hW⟩ : ∃ W, W = (((w2.setCell ⟨w.heap.size, 0, none⟩ (.int .i64 0)).setCell ⟨w.heap.size, 1, none⟩ (.int .i64 0)).setCell ⟨w.heap.size, 2, none⟩ (.bool false)).setCell ⟨w.heap.size, 3, none⟩ (.slice none 0 0) := ⟨_, rfl⟩
     rw [← hW]
     obtain ⟨ob, kW⟩ := set4 O2.out _ _ _ _ W hW
     clear hW
     have z0 : W.cell? ⟨w.heap.size, 0, none⟩ = some (.int .i64 0) := cell_of ob rfl
     have z1 : W.cell? ⟨w.heap.size, 1, none⟩ = some (.int .i64 0) := cell_of ob rfl
     have z2 : W.cell? ⟨w.heap.size, 2, none⟩ = some (.bool false) := cell_of ob rfl
     have z3 : W.cell? ⟨w.heap.size, 3, none⟩ = some (.slice none 0 0) := cell_of ob rfl
     refine bodyPost_ret (v := .tuple #[.agg #[.int .i64 0, .int .i64 0, .bool false, .slice none 0 0], .int .i64 1]) (by simp [results, Tryz.results60, go_sem, z0, z1, z2, z3]) rfl ?_
     rw [RD.out]
     exact decRes_none (K2.out.next kW (fun k hk e => by omega))
 have AR := Lib.hid har
 obtain ⟨hop, hb1, hb2⟩ := argB_iff.1 har
 have OPT := Lib.hid (show opB op = true from by unfold opB; rw [decide_eq_true hop.1, decide_eq_true hop.2]; rfl)
 rw [OPT.out] at OP
 have g1 : decide (b < 1) = false := decide_eq_false (by omega)
 have g2 : decide (5000 < b) = false := decide_eq_false (by omega)
 have LNM := Lib.hid (fun (k : Nat) x (hx : (certsOf P)[k]? = some x) => show x.fr.length ≤ 16 from (certB_len (List.all_eq_true.1 (listB_iff.1 LB.out).2.2 x (List.mem_of_getElem? hx))).2)
 clear har hop SAR
 go_wp2_with fail
 (with_reducible refine (OP.out).mono ?_)
 rintro e w3 ⟨rfl, rfl⟩
 clear OP OPT
 go_wp2
 go_loopw [16, 51] (fun nv iv wr => ∃ k n : Nat, k ≤ P.length ∧ n ≤ R.length + 16 * k ∧ nv = .int .i64 n ∧ iv = .int .i64 k ∧ Hid (n = R.length + needE ((certsOf P).take k) ∧ Chg (fun _ => False) w2 wr)) (fun _ iv _ => P.length - (intOf iv).toNat)
 case atStart => exact ⟨0, R.length, by omega, by omega, rfl, rfl, Lib.hid ⟨by simp [needE], Chg.refl _ _⟩⟩
 case round =>
  obtain ⟨k, n, hk, hn, rfl, rfl, HI⟩ := hrel
  obtain ⟨hne, hkc⟩ := HI.out
  have NE := Lib.hid hne
  have KC := Lib.hid hkc
  clear HI hne hkc
  by_cases hlt : k < P.length
  · as_aux_lemma =>
    obtain ⟨⟨x, sv⟩, hp⟩ : ∃ p, P[k]? = some p := ⟨_, List.getElem?_eq_getElem hlt⟩
    obtain ⟨_, _, e1, _, hcl⟩ := HR.out.certs.chg (K2.out.trans KC.out) (fun _ _ e => e)
    cases e1
    obtain ⟨g, o, sa, sc, rfl, hgg, hsv, c0, c1, c2, c3, c4, c5, c6, hca⟩ := hcl k _ hp
    simp only at hsv
    subst hsv
    have NS := Lib.hid (need_snoc (CG.out _ _ hp))
    have hfl := LNM.out k x (CG.out _ _ hp)
    have ka := chg_alloc (fun _ => False) wr (.cells #[.int .i64 x.kind, .int .u16 (x.sg : Int), .string x.sp, .slice sa x.fr.length sc, .int .i64 x.f, .int .i64 x.t, .int .i64 x.n] 64)
    clear hcl hp hgg hca d0 d1 d2 d3 e0 e1 e2 e3
    simp only at c0 c1 c2 c3 c4 c5 c6 NS hfl
    obtain ⟨kind, sg, sp, fr, f, t, num⟩ := x
    simp only at c0 c1 c2 c3 c4 c5 c6 ka NS hfl
    have KA := Lib.hid (KC.out.trans ka)
    clear ka KC
    have w1' : IntKind.i64.wrap ((n : Int) + (fr.length : Int)) = ((n + fr.length : Nat) : Int) := by rw [IntKind.wrap_i64]; omega
    go_wp2
    go_roundw
    case rel => exact ⟨k + 1, n + fr.length, by omega, by omega, by first | trivial | rfl | go_num, by first | trivial | go_num, Lib.hid ⟨by rw [NS.out, NE.out]; omega, KA.out⟩⟩
    case measure => simp [intOf]; omega
  obtain rfl : k = P.length := by omega
  have NN := Lib.hid (show n = R.length + needE (certsOf P) from by rw [NE.out, List.take_of_length_le (by rw [CL.out]; exact Nat.le_refl _)])
  have K3 := Lib.hid (K2.out.trans KC.out)
  have O3 := Lib.hid (KC.out.obj (fun e => e) O2.out)
  have HLA3 := Lib.hid (HLA.out.chg KC.out (fun e => e) (fun _ _ e => e))
  clear NE KC HLA O2 K2 d0 d1 d2 d3 e0 e1 e2 e3 hlt
  have d0 := cell_of (o := 0) O3.out rfl
  have e0 := frozen_of (o := 0) O3.out
  have d1 := cell_of (o := 1) O3.out rfl
  have e1 := frozen_of (o := 1) O3.out
  have d2 := cell_of (o := 2) O3.out rfl
  have e2 := frozen_of (o := 2) O3.out
  have d3 := cell_of (o := 3) O3.out rfl
  have e3 := frozen_of (o := 3) O3.out
  by_cases h4 : 400 < n
  · as_aux_lemma =>
    have g4 : decide (400 < (n : Int)) = true := decide_eq_true (by omega)
    have RD := Lib.hid (decE_many LB.out AR.out (show 400 < R.length + needE (certsOf P) from by rw [← NN.out]; exact h4))
    clear h4
    go_wp2
    obtain ⟨W, hW⟩ : ∃ W, W = (((wr.setCell ⟨w.heap.size, 0, none⟩ (.int .i64 0)).setCell ⟨w.heap.size, 1, none⟩ (.int .i64 0)).setCell ⟨w.heap.size, 2, none⟩ (.bool false)).setCell ⟨w.heap.size, 3, none⟩ (.slice none 0 0) := ⟨_, rfl⟩
    rw [← hW]
    obtain ⟨ob, kW⟩ := set4 O3.out _ _ _ _ W hW
    clear hW
    have z0 : W.cell? ⟨w.heap.size, 0, none⟩ = some (.int .i64 0) := cell_of ob rfl
    have z1 : W.cell? ⟨w.heap.size, 1, none⟩ = some (.int .i64 0) := cell_of ob rfl
    have z2 : W.cell? ⟨w.heap.size, 2, none⟩ = some (.bool false) := cell_of ob rfl
    have z3 : W.cell? ⟨w.heap.size, 3, none⟩ = some (.slice none 0 0) := cell_of ob rfl
    refine bodyPost_ret (v := .tuple #[.agg #[.int .i64 0, .int .i64 0, .bool false, .slice none 0 0], .int .i64 3]) (by simp [results, Tryz.results60, go_sem, z0, z1, z2, z3]) rfl ?_
    rw [RD.out]
    exact decRes_none (K3.out.next kW (fun k hk e => by omega))
  have g4 : decide (400 < (n : Int)) = false := decide_eq_false (by omega)
  have H4 := Lib.hid (show ¬ 400 < R.length + needE (certsOf P) from by rw [← NN.out]; exact h4)
  have SH := Lib.hid (SHO.out wr K3.out hcl)
  have DSH := Lib.hid (decE_short (R := R) (L := L) LB.out AR.out H4.out)
  have DRU := Lib.hid (decE_run (R := R) (L := L) LB.out AR.out H4.out)
  clear SHO h4
  by_cases hsh : shortI op c L < L.length
  · as_aux_lemma =>
    have RD := Lib.hid (DSH.out hsh)
    have SV : shortV op c L = (shortI op c L : Int) := by unfold shortV; rw [if_pos hsh]
    rw [SV, decide_eq_true hsh] at SH
    clear DSH DRU hsh SV
    generalize shortI op c L = si at *
    go_wp2_with fail
    clear d0 d1 d2 d3 e0 e1 e2 e3
    (with_reducible refine (SH.out).mono ?_)
    rintro e w4 ⟨rfl, k4⟩
    have O4 := Lib.hid (k4.obj (fun e => e) O3.out)
    have K4 := Lib.hid (K3.out.trans k4)
    have d0 := cell_of (o := 0) O4.out rfl
    have e0 := frozen_of (o := 0) O4.out
    have d1 := cell_of (o := 1) O4.out rfl
    have e1 := frozen_of (o := 1) O4.out
    have d2 := cell_of (o := 2) O4.out rfl
    have e2 := frozen_of (o := 2) O4.out
    have d3 := cell_of (o := 3) O4.out rfl
    have e3 := frozen_of (o := 3) O4.out
    clear SH k4
    go_wp2
    obtain ⟨W, hW⟩ : ∃ W, W = (((w4.setCell ⟨w.heap.size, 0, none⟩ (.int .i64 1)).setCell ⟨w.heap.size, 1, none⟩ (.int .i64 (si : Int))).setCell ⟨w.heap.size, 2, none⟩ (.bool true)).setCell ⟨w.heap.size, 3, none⟩ (.slice none 0 0) := ⟨_, rfl⟩
    rw [← hW]
    obtain ⟨ob, kW⟩ := set4 O4.out _ _ _ _ W hW
    clear hW
    have z0 : W.cell? ⟨w.heap.size, 0, none⟩ = some (.int .i64 1) := cell_of ob rfl
    have z1 : W.cell? ⟨w.heap.size, 1, none⟩ = some (.int .i64 (si : Int)) := cell_of ob rfl
    have z2 : W.cell? ⟨w.heap.size, 2, none⟩ = some (.bool true) := cell_of ob rfl
    have z3 : W.cell? ⟨w.heap.size, 3, none⟩ = some (.slice none 0 0) := cell_of ob rfl
    refine bodyPost_ret (v := .tuple #[.agg #[.int .i64 1, .int .i64 (si : Int), .bool true, .slice none 0 0], .int .i64 0]) (by simp [results, Tryz.results60, go_sem, z0, z1, z2, z3]) rfl ?_
    rw [RD.out]
    exact decRes_none (K4.out.next kW (fun k hk e => by omega))
  have DRR := Lib.hid (DRU.out hsh)
  rw [decide_eq_false hsh] at SH
  clear DSH DRU hsh
  generalize shortV op c L = sv at *
  go_wp2_with fail
  clear d0 d1 d2 d3 e0 e1 e2 e3
  (with_reducible refine (SH.out).mono ?_)
  rintro e w4 ⟨rfl, k4⟩
  have O4 := Lib.hid (k4.obj (fun e => e) O3.out)
  have K4 := Lib.hid (K3.out.trans k4)
  have HLA4 := Lib.hid (HLA3.out.chg k4 (fun e => e) (fun _ _ e => e))
  clear SH k4 O3 K3 HLA3
  have RA4 := Lib.hid (HR.out.chg K4.out)
  cases hacc : acceptE R (certsOf P) b with
  | error x =>
   as_aux_lemma =>
   have X12 : x = 12 := accept_err12 hacc (refE_ok (listB_iff.1 LB.out).2.2 (by have := H4.out; omega) ⟨hb1, hb2⟩)
   have RUN := Lib.hid (run_err RA4.out hacc)
   have RD := Lib.hid (show runD R (certsOf P) L op c b = ⟨2, 0, false, []⟩ from by unfold runD; rw [hacc])
   subst X12
   clear hacc
   go_wp2_with fail
   (with_reducible refine (RUN.out).mono ?_)
   rintro e w5 ⟨_, rfl, k5⟩
   have kb := chg_alloc (fun _ => False) w5 (.cells #[.slice none 0 0, .slice none 0 0] 165)
   have O5 := Lib.hid (kb.obj (fun e => e) (k5.obj (fun e => e) O4.out))
   have K5 := Lib.hid (K4.out.trans (k5.trans kb))
   have d0 := cell_of (o := 0) O5.out rfl
   have e0 := frozen_of (o := 0) O5.out
   have d1 := cell_of (o := 1) O5.out rfl
   have e1 := frozen_of (o := 1) O5.out
   have d2 := cell_of (o := 2) O5.out rfl
   have e2 := frozen_of (o := 2) O5.out
   have d3 := cell_of (o := 3) O5.out rfl
   have e3 := frozen_of (o := 3) O5.out
   clear RUN k5 kb
   go_wp2
   obtain ⟨W, hW⟩ : ∃ W, W = ((((w5.alloc (.cells #[.slice none 0 0, .slice none 0 0] 165)).setCell ⟨w.heap.size, 0, none⟩ (.int .i64 2)).setCell ⟨w.heap.size, 1, none⟩ (.int .i64 0)).setCell ⟨w.heap.size, 2, none⟩ (.bool false)).setCell ⟨w.heap.size, 3, none⟩ (.slice none 0 0) := ⟨_, rfl⟩
   rw [← hW]
   obtain ⟨ob, kW⟩ := set4 O5.out _ _ _ _ W hW
   clear hW
   have z0 : W.cell? ⟨w.heap.size, 0, none⟩ = some (.int .i64 2) := cell_of ob rfl
   have z1 : W.cell? ⟨w.heap.size, 1, none⟩ = some (.int .i64 0) := cell_of ob rfl
   have z2 : W.cell? ⟨w.heap.size, 2, none⟩ = some (.bool false) := cell_of ob rfl
   have z3 : W.cell? ⟨w.heap.size, 3, none⟩ = some (.slice none 0 0) := cell_of ob rfl
   refine bodyPost_ret (v := .tuple #[.agg #[.int .i64 2, .int .i64 0, .bool false, .slice none 0 0], .int .i64 0]) (by simp [results, Tryz.results60, go_sem, z0, z1, z2, z3]) rfl ?_
   rw [DRR.out, RD.out]
   exact decRes_none (K5.out.next kW (fun k hk e => by omega))
  | ok s =>
  have RUN := Lib.hid (run_ok RA4.out hacc)
  have RD := Lib.hid (show runD R (certsOf P) L op c b = ⟨(askGo s.rules b c op 0 0 L).1, (askGo s.rules b c op 0 0 L).2, false, s.rules⟩ from by unfold runD; rw [hacc])
  have RSZ := Lib.hid (show ∀ r ∈ R, r.1.size ≤ 400 ∧ r.2.size ≤ maxLen from fun r hr => ⟨HR.out.size (by have := H4.out; omega) r hr, by
   obtain ⟨_, _, _, _, q⟩ := HR.out.rules
   obtain ⟨j, hj⟩ := List.mem_iff_getElem?.1 hr
   obtain ⟨_, _, _, _, _, _, q2⟩ := q j r hj
   exact q2.2⟩)
  have FEW := Lib.hid (RunOk.few hacc RSZ.out)
  have A0 := Lib.hid (show askBad s.rules b c op = 0 from by
   have := (argB_iff.1 AR.out).1
   unfold askBad badE
   rw [if_pos (listB_iff.1 LB.out).1, if_neg (by omega), if_pos rfl, if_neg (by omega), if_neg (by have := FEW.out.1; omega)])
  clear hacc RSZ HR
  go_wp2_with fail
  (with_reducible refine (RUN.out).mono ?_)
  rintro e w5 ⟨oa, va, oc, vc, rfl, hoo, hor, k5⟩
  have kb := chg_alloc (fun _ => False) w5 (.cells #[.slice oa s.order.length oc, .slice va s.rules.length vc] 165)
  have K5 := Lib.hid (K4.out.trans (k5.trans kb))
  have O5 := Lib.hid (kb.obj (fun e => e) (k5.obj (fun e => e) O4.out))
  have OR5 := Lib.hid (obj_alloc_new w5 (.cells #[.slice oa s.order.length oc, .slice va s.rules.length vc] 165))
  have RR5 := Lib.hid (own_chg hor kb (fun _ _ e => e))
  have SZ := Lib.hid (show ∀ r ∈ s.rules, r.1.size ≤ maxLen ∧ r.2.size ≤ maxLen from fun r hr => ⟨by have := (FEW.out.2 r hr).1; unfold maxLen; omega, (FEW.out.2 r hr).2⟩)
  have AS := Lib.hid (ASK.out _ K5.out b0 _ _ _ s.rules ((HLA4.out.chg k5 (fun e => e) (fun _ _ e => e)).chg kb (fun e => e) (fun _ _ e => e)) (rulesAt_own RR5.out SZ.out) (.inl ⟨FEW.out.1, fun r hr => (FEW.out.2 r hr).1⟩) A0.out)
  have q1 := cell_of (o := 1) OR5.out rfl
  have HS5 := Lib.hid (show w.heap.size < w4.heap.size from lt_of_obj O4.out)
  clear k5 kb hoo hor RUN O4 K4 HLA4 ASK SZ A0
  generalize askGo s.rules b c op 0 0 L = aa at *
  go_wp2_with fail
  generalize w5.alloc (.cells #[.slice oa s.order.length oc, .slice va s.rules.length vc] 165) = w6 at *
  generalize w5.heap.size = gq at *
  clear q1
  (with_reducible refine (AS.out).mono ?_)
  rintro e w7 ⟨rfl, k7⟩
  have K7 := Lib.hid (K5.out.trans k7)
  have O7 := Lib.hid (k7.obj (fun e => e) O5.out)
  have OR7 := Lib.hid (k7.obj (fun e => e) OR5.out)
  have RR7 := Lib.hid (own_chg RR5.out k7 (fun _ _ e => e))
  have d0 := cell_of (o := 0) O7.out rfl
  have e0 := frozen_of (o := 0) O7.out
  have d1 := cell_of (o := 1) O7.out rfl
  have e1 := frozen_of (o := 1) O7.out
  have d2 := cell_of (o := 2) O7.out rfl
  have e2 := frozen_of (o := 2) O7.out
  have d3 := cell_of (o := 3) O7.out rfl
  have e3 := frozen_of (o := 3) O7.out
  have q1 := cell_of (o := 1) OR7.out rfl
  obtain ⟨a1, a2⟩ := aa
  clear AS k7 K5 O5 OR5 RR5
  go_wp2
  obtain ⟨W, hW⟩ : ∃ W, W = (((w7.setCell ⟨w.heap.size, 0, none⟩ (.int .i64 a1)).setCell ⟨w.heap.size, 1, none⟩ (.int .i64 a2)).setCell ⟨w.heap.size, 2, none⟩ (.bool false)).setCell ⟨w.heap.size, 3, none⟩ (.slice va s.rules.length vc) := ⟨_, rfl⟩
  rw [← hW]
  obtain ⟨ob, kW⟩ := set4 O7.out _ _ _ _ W hW
  clear hW
  have z0 : W.cell? ⟨w.heap.size, 0, none⟩ = some (.int .i64 a1) := cell_of ob rfl
  have z1 : W.cell? ⟨w.heap.size, 1, none⟩ = some (.int .i64 a2) := cell_of ob rfl
  have z2 : W.cell? ⟨w.heap.size, 2, none⟩ = some (.bool false) := cell_of ob rfl
  have z3 : W.cell? ⟨w.heap.size, 3, none⟩ = some (.slice va s.rules.length vc) := cell_of ob rfl
  refine bodyPost_ret (v := .tuple #[.agg #[.int .i64 a1, .int .i64 a2, .bool false, .slice va s.rules.length vc], .int .i64 0]) (by simp [results, Tryz.results60, go_sem, z0, z1, z2, z3]) rfl ?_
  rw [DRR.out, RD.out]
  exact ⟨K7.out.next kW (fun k hk e => by omega), va, vc, rfl, own_base (own_chg RR7.out kW (fun k hk e => by
   have h1 := (RR7.out.lt k hk).1
   have h2 := HS5.out
   omega)) (Nat.le_of_lt HS5.out)⟩
end Go.Proofs.YthdfplafihmejaaGreat
