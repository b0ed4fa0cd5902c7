/-
  Layer 17: what is asked; decide, explain, own.
  Layer 17: long.
-/
import Derived.Test.YthdfplafihmejaaGreatVExplain
import Derived.Deep.DeepCutAuto
import Derived.Deep.CutBlock
namespace Go.Proofs.YthdfplafihmejaaGreat
open Go.RowKit Go.Maps

structure AskAt (w : World) (ra : Option Addr) (R : List BRul) (rc : Nat) (v lv cv : Value) (P : List (BCert × Value)) (L : List BEnt) (c : List ByteArray) (G : Nat → Prop) : Prop where
 run : RunArgs w ra R rc v P G
 ents : EntsAt w lv G L
 few : L.length ≤ 1000
 set : WordsAt w cv G c
theorem AskAt.chg {w w' : World} {ra : Option Addr} {R : List BRul} {rc : Nat} {v lv cv : Value} {P : List (BCert × Value)} {L : List BEnt} {c : List ByteArray} {G : Nat → Prop} (h : AskAt w ra R rc v lv cv P L c G) (k : Chg (fun _ => False) w w') : AskAt w' ra R rc v lv cv P L c G :=
 ⟨h.run.chg k, h.ents.chg k (fun _ _ e => e), h.few, h.set.chg k (fun _ _ e => e)⟩
section
variable (w : World) (ra : Option Addr) (R : List BRul) (rc : Nat) (v lv cv : Value) (P : List (BCert × Value)) (L : List BEnt) (op : Int) (c : List ByteArray) (b : Int) (G : Nat → Prop)
theorem adec_any (h : AskAt w ra R rc v lv cv P L c G) : Calls Tryz.prog 11 #[.agg #[.slice ra R.length rc, v, lv, .int .i64 op, cv, .int .i64 b]] w fun e w' => e = .returned (.tuple #[.int .i64 (decE R (certsOf P) L op c b).2.ans, .int .i64 (decE R (certsOf P) L op c b).1]) ∧ Chg (fun _ => False) w w' := by
 have kb := chg_alloc (fun _ => False) w (.cells #[.slice ra R.length rc, v, lv, .int .i64 op, cv, .int .i64 b] 28)
 have h1 := h.chg kb
 have D := Lib.hid (dec_any _ ra R rc v lv cv P L op c b G G G h1.run h1.ents h1.few h1.set)
 have KB := Lib.hid kb
 obtain ⟨la, lcap, rfl, _, _⟩ := h.run.certs
 obtain ⟨ea, ec, rfl, _, _⟩ := h.ents.shape
 obtain ⟨ca, cc, rfl, _, _⟩ := h.set
 generalize decE R (certsOf P) L op c b = q at *
 clear h h1 kb
 go_enter Tryz.func11, Tryz.ntmps11
 go_wp2_with fail
 (with_reducible refine (D.out).mono ?_)
 rintro e w2 ⟨rfl, k2⟩
 go_wp2
 go_ret2
 exact ⟨rfl, KB.out.trans k2⟩
theorem aexp_any (h : AskAt w ra R rc v lv cv P L c G) : Calls Tryz.prog 13 #[.agg #[.slice ra R.length rc, v, lv, .int .i64 op, cv, .int .i64 b]] w (ExpRes w (explE R (certsOf P) L op c b)) := by
 have kb := chg_alloc (fun _ => False) w (.cells #[.slice ra R.length rc, v, lv, .int .i64 op, cv, .int .i64 b] 28)
 have kc := chg_alloc (fun _ => False) (w.alloc (.cells #[.slice ra R.length rc, v, lv, .int .i64 op, cv, .int .i64 b] 28)) (.cells #[.int .i64 0, .slice none 0 0, .slice none 0 0] 39)
 have oc := obj_alloc_new (w.alloc (.cells #[.slice ra R.length rc, v, lv, .int .i64 op, cv, .int .i64 b] 28)) (.cells #[.int .i64 0, .slice none 0 0, .slice none 0 0] 39)
 rw [World.size_alloc] at oc
 have h1 := h.chg (kb.trans kc)
 have D := Lib.hid (explain_any _ ra R rc v lv cv P L op c b G G G h1.run h1.ents h1.few h1.set)
 have KB := Lib.hid (kb.trans kc)
 have OC := Lib.hid oc
 obtain ⟨la, lcap, rfl, _, _⟩ := h.run.certs
 obtain ⟨ea, ec, rfl, _, _⟩ := h.ents.shape
 obtain ⟨ca, cc, rfl, _, _⟩ := h.set
 generalize explE R (certsOf P) L op c b = q at *
 clear h h1 kb kc oc
 go_enter Tryz.func13, Tryz.ntmps13
 go_wp2_with fail
 generalize (w.alloc (.cells #[.slice ra R.length rc, .slice la P.length lcap, .slice ea L.length ec, .int .i64 op, .slice ca c.length cc, .int .i64 b] 28)).alloc (.cells #[.int .i64 0, .slice none 0 0, .slice none 0 0] 39) = w1 at *
 (with_reducible refine (D.out).mono ?_)
 rintro e w2 ⟨k2, tv, pv, rfl, hy⟩
 have O2 := Lib.hid (k2.obj (fun e => e) OC.out)
 have K2 := Lib.hid (KB.out.trans k2)
 have HY := Lib.hid hy
 have HS := Lib.hid (show w.heap.size + 1 < w1.heap.size from lt_of_obj OC.out)
 have d0 := cell_of (o := 0) O2.out rfl
 have e0 := frozen_of (o := 0) O2.out
 have d1 := cell_of (o := 1) O2.out rfl
 have e1 := frozen_of (o := 1) O2.out
 have d2 := cell_of (o := 2) O2.out rfl
 have e2 := frozen_of (o := 2) O2.out
 obtain ⟨ta, tc, rfl, _, _⟩ := hy.ways
 obtain ⟨qa, qc, rfl, _, _⟩ := hy.proofs
 obtain ⟨q1, ⟨en, ways, proofs⟩, q3⟩ := q
 simp only at HY
 clear hy k2 D
 go_wp2
 obtain ⟨W, hW⟩ : ∃ W, W = ((w2.setCell ⟨w.heap.size + 1, 0, none⟩ (.int .i64 en)).setCell ⟨w.heap.size + 1, 1, none⟩ (.slice ta ways.length tc)).setCell ⟨w.heap.size + 1, 2, none⟩ (.slice qa proofs.length qc) := ⟨_, rfl⟩
 rw [← hW]
 obtain ⟨ob, kW⟩ := set3 O2.out _ _ _ W hW
 clear hW
 have z0 : W.cell? ⟨w.heap.size + 1, 0, none⟩ = some (.int .i64 en) := cell_of ob rfl
 have z1 : W.cell? ⟨w.heap.size + 1, 1, none⟩ = some (.slice ta ways.length tc) := cell_of ob rfl
 have z2 : W.cell? ⟨w.heap.size + 1, 2, none⟩ = some (.slice qa proofs.length qc) := cell_of ob rfl
 refine bodyPost_ret (v := .tuple #[.int .i64 q1, .agg #[.int .i64 en, .slice ta ways.length tc, .slice qa proofs.length qc], .int .i64 q3]) (by simp [results, Tryz.results13, go_sem, z0, z1, z2]) rfl ?_
 have hs := kW.size
 have hs1 := HS.out
 exact ⟨K2.out.next kW (fun k hk e => by omega), _, _, rfl, (HY.out.chg kW (fun k hk e => by omega)).up (fun k hk => ⟨by omega, by omega⟩)⟩
end
end Go.Proofs.YthdfplafihmejaaGreat

namespace Go.Proofs.YthdfplafihmejaaGreat
open Go.RowKit Go.Maps

structure Short17 (p : BProof) : Prop where
 items : p.items.length ≤ 12
 steps : p.steps.length ≤ 60
 path : ∀ x ∈ p.items, x.paths.length ≤ 20 ∧ ∀ l ∈ x.paths, l.length ≤ 60
structure ShortY (y : BWhy) : Prop where
 many : y.proofs.length ≤ 20 ∧ y.ways.length ≤ 20
 proof : ∀ p ∈ y.proofs, Short17 p
def Long17Res (w : World) (y : BWhy) (e : Ending) (w' : World) : Prop := ∃ b : Bool, e = .returned (.bool b) ∧ Chg (fun _ => False) w w' ∧ (b = false → ShortY y)
end Go.Proofs.YthdfplafihmejaaGreat
