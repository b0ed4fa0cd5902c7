/-
  Layer 17: what is asked; decide, explain, own.
  Layer 17: long.
-/
import Derived.Test.YthdfplafihmejaaGreatVExplain
import Derived.Deep.DeepCutAuto
import Derived.Deep.CutBlock
namespace Go.Proofs.YthdfplafihmejaaGreat
open Go.RowKit Go.Maps

structure AskAt (w : World) (ra : Option Addr) (R : List BRul) (rc : Nat) (v lv cv : Value) (P : List (BCert × Value)) (L : List BEnt) (c : List ByteArray) (G : Nat → Prop) : Prop where
 run : RunArgs w ra R rc v P G
 ents : EntsAt w lv G L
 few : L.length ≤ 1000
 set : WordsAt w cv G c
theorem AskAt.chg {w w' : World} {ra : Option Addr} {R : List BRul} {rc : Nat} {v lv cv : Value} {P : List (BCert × Value)} {L : List BEnt} {c : List ByteArray} {G : Nat → Prop} (h : AskAt w ra R rc v lv cv P L c G) (k : Chg (fun _ => False) w w') : AskAt w' ra R rc v lv cv P L c G :=
 ⟨h.run.chg k, h.ents.chg k (fun _ _ e => e), h.few, h.set.chg k (fun _ _ e => e)⟩
section
variable (w : World) (ra : Option Addr) (R : List BRul) (rc : Nat) (v lv cv : Value) (P : List (BCert × Value)) (L : List BEnt) (op : Int) (c : List ByteArray) (b : Int) (G : Nat → Prop)
theorem adec_any (h : AskAt w ra R rc v lv cv P L c G) : Calls Tryz.prog 11 #[.agg #[.slice ra R.length rc, v, lv, .int .i64 op, cv, .int .i64 b]] w fun e w' => e = .returned (.tuple #[.int .i64 (decE R (certsOf P) L op c b).2.ans, .int .i64 (decE R (certsOf P) L op c b).1]) ∧ Chg (fun _ => False) w w' := by
 have kb := chg_alloc (fun _ => False) w (.cells #[.slice ra R.length rc, v, lv, .int .i64 op, cv, .int .i64 b] 28)
 have h1 := h.chg kb
 have D := Lib.hid (dec_any _ ra R rc v lv cv P L op c b G G G h1.run h1.ents h1.few h1.set)
 have KB := Lib.hid kb
 obtain ⟨la, lcap, rfl, _, _⟩ := h.run.certs
 obtain ⟨ea, ec, rfl, _, _⟩ := h.ents.shape
 obtain ⟨ca, cc, rfl, _, _⟩ := h.set
 generalize decE R (certsOf P) L op c b = q at *
 clear h h1 kb
 go_enter Tryz.func11, Tryz.ntmps11
 go_wp2_with fail
 (with_reducible refine (D.out).mono ?_)
 rintro e w2 ⟨rfl, k2⟩
 go_wp2
 go_ret2
 exact ⟨rfl, KB.out.trans k2⟩
theorem aexp_any (h : AskAt w ra R rc v lv cv P L c G) : Calls Tryz.prog 13 #[.agg #[.slice ra R.length rc, v, lv, .int .i64 op, cv, .int .i64 b]] w (ExpRes w (explE R (certsOf P) L op c b)) := by
 have kb := chg_alloc (fun _ => False) w (.cells #[.slice ra R.length rc, v, lv, .int .i64 op, cv, .int .i64 b] 28)
 have kc := chg_alloc (fun _ => False) (w.alloc (.cells #[.slice ra R.length rc, v, lv, .int .i64 op, cv, .int .i64 b] 28)) (.cells #[.int .i64 0, .slice none 0 0, .slice none 0 0] 39)
 have oc := obj_alloc_new (w.alloc (.cells #[.slice ra R.length rc, v, lv, .int .i64 op, cv, .int .i64 b] 28)) (.cells #[.int .i64 0, .slice none 0 0, .slice none 0 0] 39)
 rw [World.size_alloc] at oc
 have h1 := h.chg (kb.trans kc)
 have D := Lib.hid (explain_any _ ra R rc v lv cv P L op c b G G G h1.run h1.ents h1.few h1.set)
 have KB := Lib.hid (kb.trans kc)
 have OC := Lib.hid oc
 obtain ⟨la, lcap, rfl, _, _⟩ := h.run.certs
 obtain ⟨ea, ec, rfl, _, _⟩ := h.ents.shape
 obtain ⟨ca, cc, rfl, _, _⟩ := h.set
 generalize explE R (certsOf P) L op c b = q at *
 clear h h1 kb kc oc
 go_enter Tryz.func13, Tryz.ntmps13
 go_wp2_with fail
 generalize (w.alloc (.cells #[.slice ra R.length rc, .slice la P.length lcap, .slice ea L.length ec, .int .i64 op, .slice ca c.length cc, .int .i64 b] 28)).alloc (.cells #[.int .i64 0, .slice none 0 0, .slice none 0 0] 39) = w1 at *
 (with_reducible refine (D.out).mono ?_)
 rintro e w2 ⟨k2, tv, pv, rfl, hy⟩
 have O2 := Lib.hid (k2.obj (fun e => e) OC.out)
 have K2 := Lib.hid (KB.out.trans k2)
 have HY := Lib.hid hy
 have HS := Lib.hid (show w.heap.size + 1 < w1.heap.size from lt_of_obj OC.out)
 have d0 := cell_of (o := 0) O2.out rfl
 have e0 := frozen_of (o := 0) O2.out
 have d1 := cell_of (o := 1) O2.out rfl
 have e1 := frozen_of (o := 1) O2.out
 have d2 := cell_of (o := 2) O2.out rfl
 have e2 := frozen_of (o := 2) O2.out
 obtain ⟨ta, tc, rfl, _, _⟩ := hy.ways
 obtain ⟨qa, qc, rfl, _, _⟩ := hy.proofs
 obtain ⟨q1, ⟨en, ways, proofs⟩, q3⟩ := q
 simp only at HY
 clear hy k2 D
 go_wp2
 obtain ⟨W, hW⟩ : ∃ W, W = ((w2.setCell ⟨w.heap.size + 1, 0, none⟩ (.int .i64 en)).setCell ⟨w.heap.size + 1, 1, none⟩ (.slice ta ways.length tc)).setCell ⟨w.heap.size + 1, 2, none⟩ (.slice qa proofs.length qc) := ⟨_, rfl⟩
 rw [← hW]
 obtain ⟨ob, kW⟩ := set3 O2.out _ _ _ W hW
 clear hW
 have z0 : W.cell? ⟨w.heap.size + 1, 0, none⟩ = some (.int .i64 en) := cell_of ob rfl
 have z1 : W.cell? ⟨w.heap.size + 1, 1, none⟩ = some (.slice ta ways.length tc) := cell_of ob rfl
 have z2 : W.cell? ⟨w.heap.size + 1, 2, none⟩ = some (.slice qa proofs.length qc) := cell_of ob rfl
 refine bodyPost_ret (v := .tuple #[.int .i64 q1, .agg #[.int .i64 en, .slice ta ways.length tc, .slice qa proofs.length qc], .int .i64 q3]) (by simp [results, Tryz.results13, go_sem, z0, z1, z2]) rfl ?_
 have hs := kW.size
 have hs1 := HS.out
 exact ⟨K2.out.next kW (fun k hk e => by omega), _, _, rfl, (HY.out.chg kW (fun k hk e => by omega)).up (fun k hk => ⟨by omega, by omega⟩)⟩
end
end Go.Proofs.YthdfplafihmejaaGreat

namespace Go.Proofs.YthdfplafihmejaaGreat
open Go.RowKit Go.Maps

structure Short17 (p : BProof) : Prop where
 items : p.items.length ≤ 12
 steps : p.steps.length ≤ 60
 path : ∀ x ∈ p.items, x.paths.length ≤ 20 ∧ ∀ l ∈ x.paths, l.length ≤ 60
structure ShortY (y : BWhy) : Prop where
 many : y.proofs.length ≤ 20 ∧ y.ways.length ≤ 20
 proof : ∀ p ∈ y.proofs, Short17 p
def Long17Res (w : World) (y : BWhy) (e : Ending) (w' : World) : Prop := ∃ b : Bool, e = .returned (.bool b) ∧ Chg (fun _ => False) w w' ∧ (b = false → ShortY y)
set_option maxHeartbeats 4000000 in
set_option maxRecDepth 100000 in
theorem long17_any (w : World) (tv pv : Value) (G : Nat → Prop) (y : BWhy) (hy : WhyAt w tv pv G y) :
  Calls Tryz.prog 17 #[.agg #[.int .i64 y.entry, tv, pv]] w (Long17Res w y) := by
 have HY := Lib.hid hy
 obtain ⟨ta, tc, rfl, htl, _⟩ := hy.ways
 obtain ⟨qa, qc, rfl, hql, _⟩ := hy.proofs
 unfold maxLen at htl hql
 have FIN := Lib.hid (show (y.proofs.length ≤ 20 ∧ y.ways.length ≤ 20) → (∀ (j : Nat) p, j < y.proofs.length → y.proofs[j]? = some p → Short17 p) → ShortY y from fun h1 h2 => ⟨h1, fun x hx => by
  obtain ⟨j, hj⟩ := List.mem_iff_getElem?.1 hx
  exact h2 j x (List.getElem?_eq_some_iff.1 hj).1 hj⟩)
 clear hy
 have OB := Lib.hid (obj_alloc_new w (.cells #[.int .i64 y.entry, .slice ta y.ways.length tc, .slice qa y.proofs.length qc] 39))
 have KB := Lib.hid (chg_alloc (fun _ => False) w (.cells #[.int .i64 y.entry, .slice ta y.ways.length tc, .slice qa y.proofs.length qc] 39))
 go_enter Tryz.func17, Tryz.ntmps17
 go_upto_region 1 with fail
 obtain ⟨b0, hb0⟩ : ∃ b0, b0 = w.heap.size := ⟨_, rfl⟩
 rw [← hb0] at OB
 rw [← hb0]
 generalize w.alloc (.cells #[.int .i64 y.entry, .slice ta y.ways.length tc, .slice qa y.proofs.length qc] 39) = w1 at *
 have q1 := cell_of (o := 1) OB.out rfl
 have q2 := cell_of (o := 2) OB.out rfl
 clear hb0
 go_cut [16] (fun cv wc => ∃ x : Bool, cv = .bool x ∧ Hid (w1 = wc) ∧ Hid (x = false → y.proofs.length ≤ 20 ∧ y.ways.length ≤ 20))
 case first =>
  by_cases h8 : 20 < y.proofs.length
  · have g8 : decide (20 < (y.proofs.length : Int)) = true := decide_eq_true (by omega)
    have g8' : decide (20 < y.proofs.length) = true := decide_eq_true h8
    go_wp2
    go_meet
    case rel => exact ⟨true, rfl, Lib.hid rfl, Lib.hid (fun e => by cases e)⟩
  have g8 : decide (20 < (y.proofs.length : Int)) = false := decide_eq_false (by omega)
  have g8' : decide (20 < y.proofs.length) = false := decide_eq_false h8
  by_cases h12 : 20 < y.ways.length
  · have g12 : decide (20 < (y.ways.length : Int)) = true := decide_eq_true (by omega)
    have g12' : decide (20 < y.ways.length) = true := decide_eq_true h12
    go_wp2
    go_meet
    case rel => exact ⟨true, rfl, Lib.hid rfl, Lib.hid (fun e => by cases e)⟩
  have g12 : decide (20 < (y.ways.length : Int)) = false := decide_eq_false (by omega)
  have g12' : decide (20 < y.ways.length) = false := decide_eq_false h12
  have RR := Lib.hid (show y.proofs.length ≤ 20 ∧ y.ways.length ≤ 20 from ⟨by omega, by omega⟩)
  go_wp2
  go_meet
  case rel => exact ⟨false, rfl, Lib.hid rfl, Lib.hid (fun _ => RR.out)⟩
 case rest =>
  obtain ⟨x, rfl, hw, hx⟩ := hcut
  have hw := hw.out
  subst hw
  cases x with
  | true =>
   go_wp2
   go_ret
   exact ⟨true, rfl, KB.out, fun e => by cases e⟩
  | false =>
  have HX := Lib.hid (hx.out rfl)
  have hi20 := HX.out.1
  clear hx q1
  go_wp2
  clear q2
  go_loopw [20] (fun iv wr => ∃ k : Nat, k ≤ y.proofs.length ∧ iv = .int .i64 k ∧ Hid (Chg (fun _ => False) w1 wr) ∧ Hid (∀ (j : Nat) p, j < k → y.proofs[j]? = some p → Short17 p)) (fun iv _ => y.proofs.length - (intOf iv).toNat)
  case atStart => exact ⟨0, by omega, rfl, Lib.hid (Chg.refl _ _), Lib.hid (fun j r hj => by omega)⟩
  case round =>
   obtain ⟨k, hk, rfl, KC, HI⟩ := hrel
   have q2 := cell_of (o := 2) (KC.out.obj (fun e => e) OB.out) rfl
   by_cases hlt : k < y.proofs.length
   rotate_left
   · obtain rfl : k = y.proofs.length := by omega
     go_wp2
     go_ret
     exact ⟨false, rfl, KB.out.trans KC.out, fun _ => FIN.out HX.out HI.out⟩
   have g1 : decide ((k : Int) < (y.proofs.length : Int)) = true := decide_eq_true (by omega)
   have g1' : decide (k < y.proofs.length) = true := decide_eq_true hlt
   obtain ⟨p, hp⟩ : ∃ p, y.proofs[k]? = some p := ⟨_, List.getElem?_eq_getElem hlt⟩
   have NX := Lib.hid (show Short17 p → ∀ (j : Nat) z, j < k + 1 → y.proofs[j]? = some z → Short17 z from fun z j u hj hju => by
    rcases Nat.lt_or_ge j k with q | q
    · exact HI.out j u q hju
    · obtain rfl : j = k := by omega
      rw [hp] at hju; cases hju
      exact z)
   obtain ⟨_, _, e1, _, hps⟩ := HY.out.proofs.chg (KB.out.trans KC.out) (fun _ _ e => e)
   cases e1
   obtain ⟨pg, po, iv, sv, rfl, _, p0, p1, hpp⟩ := hps k p hp
   have hsl := hpp.steps.len
   obtain ⟨ia, ic, rfl, il, _⟩ := id hpp.items
   obtain ⟨sa, sc, rfl⟩ := hpp.steps.shape
   unfold maxLen at il
   have ka := chg_alloc (fun _ => False) wr (.cells #[.slice ia p.items.length ic, .slice sa p.steps.length sc] 83)
   have OP := Lib.hid (obj_alloc_new wr (.cells #[.slice ia p.items.length ic, .slice sa p.steps.length sc] 83))
   have HP := Lib.hid (hpp.chg ka (fun _ _ e => e))
   have KA := Lib.hid (KC.out.trans ka)
   clear hps hp hpp ka HI
   obtain ⟨items, steps⟩ := p
   simp only at p0 p1 hsl il OP HP KA
   by_cases h1 : 12 < items.length
   · have m3 : decide (12 < (items.length : Int)) = true := decide_eq_true (by omega)
     have m3' : decide (12 < items.length) = true := decide_eq_true h1
     go_wp2
     go_ret
     exact ⟨true, rfl, KB.out.trans KA.out, fun e => by cases e⟩
   have m3 : decide (12 < (items.length : Int)) = false := decide_eq_false (by omega)
   have m3' : decide (12 < items.length) = false := decide_eq_false h1
   by_cases h2 : 60 < steps.length
   · have m4 : decide (60 < (steps.length : Int)) = true := decide_eq_true (by omega)
     have m4' : decide (60 < steps.length) = true := decide_eq_true h2
     go_wp2
     go_ret
     exact ⟨true, rfl, KB.out.trans KA.out, fun e => by cases e⟩
   have m4 : decide (60 < (steps.length : Int)) = false := decide_eq_false (by omega)
   have m4' : decide (60 < steps.length) = false := decide_eq_false h2
   have HS := Lib.hid (show items.length ≤ 12 ∧ steps.length ≤ 60 from ⟨by omega, by omega⟩)
   go_wp2
   generalize wr.alloc (.cells #[.slice ia items.length ic, .slice sa steps.length sc] 83) = wq at *
   generalize wr.heap.size = bp at *
   clear p0 p1 q2 m4 m4' KC
   have o0 := cell_of (o := 0) OP.out rfl
   go_loopw [41] (fun iv wz => ∃ q : Nat, q ≤ items.length ∧ iv = .int .i64 q ∧ Hid (wq = wz) ∧ Hid (∀ (j : Nat) x, j < q → items[j]? = some x → x.paths.length ≤ 20 ∧ ∀ l ∈ x.paths, l.length ≤ 60)) (fun iv _ => items.length - (intOf iv).toNat)
   case atStart => exact ⟨0, by omega, rfl, Lib.hid rfl, Lib.hid (fun j r hj => by omega)⟩
   case round =>
    obtain ⟨m, hm, rfl, hw, HI⟩ := hrel
    have hw := hw.out
    subst hw
    by_cases hml : m < items.length
    rotate_left
    · obtain rfl : m = items.length := by omega
      have NX2 := Lib.hid (NX.out ⟨HS.out.1, HS.out.2, fun x hx => by
       obtain ⟨j, hj⟩ := List.mem_iff_getElem?.1 hx
       exact HI.out j x (List.getElem?_eq_some_iff.1 hj).1 hj⟩)
      go_wp2
      go_roundw
      case rel => exact ⟨k + 1, by omega, by go_num, KA, NX2⟩
      case measure => simp [intOf]; omega
    have n1 : decide ((m : Int) < (items.length : Int)) = true := decide_eq_true (by omega)
    have n1' : decide (m < items.length) = true := decide_eq_true hml
    obtain ⟨x, hx⟩ : ∃ x, items[m]? = some x := ⟨_, List.getElem?_eq_getElem hml⟩
    obtain ⟨_, _, e1, _, hcl⟩ := HP.out.items
    cases e1
    obtain ⟨lb, lo, pv, rfl, _, _, j1, hpa⟩ := hcl m _ hx
    have hpl := hpa.len
    obtain ⟨pa, pc, rfl⟩ := hpa.shape
    have HPA := Lib.hid hpa
    have NM := Lib.hid (show (x.paths.length ≤ 20 ∧ ∀ l ∈ x.paths, l.length ≤ 60) → ∀ (j : Nat) z, j < m + 1 → items[j]? = some z → z.paths.length ≤ 20 ∧ ∀ l ∈ z.paths, l.length ≤ 60 from fun z j u hj hju => by
     rcases Nat.lt_or_ge j m with q | q
     · exact HI.out j u q hju
     · obtain rfl : j = m := by omega
       rw [hx] at hju; cases hju
       exact z)
    clear hcl hx hpa HI
    by_cases h1 : 20 < x.paths.length
    · have m5 : decide (20 < (x.paths.length : Int)) = true := decide_eq_true (by omega)
      have m5' : decide (20 < x.paths.length) = true := decide_eq_true h1
      go_wp2
      go_ret
      exact ⟨true, rfl, KB.out.trans KA.out, fun e => by cases e⟩
    have m5 : decide (20 < (x.paths.length : Int)) = false := decide_eq_false (by omega)
    have m5' : decide (20 < x.paths.length) = false := decide_eq_false h1
    go_wp2
    go_loopw [59] (fun iv wz => ∃ q : Nat, q ≤ x.paths.length ∧ iv = .int .i64 q ∧ Hid (wq = wz) ∧ Hid (∀ (j : Nat) l, j < q → x.paths[j]? = some l → l.length ≤ 60)) (fun iv _ => x.paths.length - (intOf iv).toNat)
    case atStart => exact ⟨0, by omega, rfl, Lib.hid rfl, Lib.hid (fun j r hj => by omega)⟩
    case round =>
     obtain ⟨q, hq, rfl, hw, HQ⟩ := hrel
     have hw := hw.out
     subst hw
     by_cases hql : q < x.paths.length
     rotate_left
     · obtain rfl : q = x.paths.length := by omega
       have NX2 := Lib.hid (NM.out ⟨by omega, fun l hl => by
        obtain ⟨j, hj⟩ := List.mem_iff_getElem?.1 hl
        exact HQ.out j l (List.getElem?_eq_some_iff.1 hj).1 hj⟩)
       go_wp2
       go_roundw
       case rel => exact ⟨m + 1, by omega, by go_num, Lib.hid (by first | trivial | rfl), NX2⟩
       case measure => simp [intOf]; omega
     have m7 : decide ((q : Int) < (x.paths.length : Int)) = true := decide_eq_true (by omega)
     have m7' : decide (q < x.paths.length) = true := decide_eq_true hql
     obtain ⟨l, hl⟩ : ∃ l, x.paths[q]? = some l := ⟨_, List.getElem?_eq_getElem hql⟩
     obtain ⟨_, _, e1, _, hcl⟩ := HPA.out
     cases e1
     obtain ⟨lb2, lo2, pv2, rfl, _, q0', hst⟩ := hcl q l hl
     have hll := hst.len
     obtain ⟨qa2, qc2, rfl⟩ := hst.shape
     have HLL := Lib.hid hl
     clear hcl hl hst
     by_cases h3 : 60 < l.length
     · have m8 : decide (60 < (l.length : Int)) = true := decide_eq_true (by omega)
       have m8' : decide (60 < l.length) = true := decide_eq_true h3
       go_wp2
       go_ret
       exact ⟨true, rfl, KB.out.trans KA.out, fun e => by cases e⟩
     have m8 : decide (60 < (l.length : Int)) = false := decide_eq_false (by omega)
     have m8' : decide (60 < l.length) = false := decide_eq_false h3
     go_wp2
     go_roundw
     case rel => exact ⟨q + 1, by omega, by go_num, Lib.hid (by first | trivial | rfl), Lib.hid (fun j u hj hju => by
      rcases Nat.lt_or_ge j q with z | z
      · exact HQ.out j u z hju
      · obtain rfl : j = q := by omega
        rw [HLL.out] at hju; cases hju
        omega)⟩
     case measure => simp [intOf]; omega
end Go.Proofs.YthdfplafihmejaaGreat
