/-
  Package store: clone; slices.Clone of a set.
  Package cert: Holds; package store: the closures of Valid and Sweep, Len, Turn.
-/
import Derived.Test.YtdgmjablkdemmaaGreatCEnc
namespace Go.Proofs.YtdgmjablkdemmaaGreat
open Go.RowKit Go.Maps

set_option maxRecDepth 100000 in
theorem slclone_any (w : World) (g o n c : Nat) (G : Nat → Prop) (l : List ByteArray) (hv : WordsAt w (.slice (some ⟨g, o, none⟩) n c) G l) (hl : l.length ≤ 1000) :
    Calls Tryz.prog 65 #[.slice (some ⟨g, o, none⟩) n c] w fun e w' => ∃ v, e = .returned v ∧ w'.ownsRow w.heap.size 23 1 v l.length (wcells l) ∧ Chg (fun _ => False) w w' := by
  have SRC := Lib.hid (words_src hv)
  obtain ⟨la, cap, e, hl0, _⟩ := hv
  cases e
  have EQN := fun w => Lib.run_eql_slice_nil (P := Tryz.prog) w 32 _ (some ⟨g, o, none⟩) l.length c 0 0 Tryz.underlying32
  go_enter Tryz.func65, Tryz.ntmps65
  go_wp2_with (at_builtin; refine wpList_pushS rfl (.tmp 5) (.tmp 6) 32 rfl 23 1 16 Tryz.underlying32 Tryz.elemWord w.heap.size _ 0 [] rfl (own_empty _ _ _ _ (Nat.le_refl _)) (some ⟨g, o, none⟩) l.length c (wcells l) rfl ?a1 ?a2 ?a3 ?a4 ?a5 ?a6 ?a7 ?nx1)
  case a1 => unfold wcells; rw [List.length_map]; omega
  case a2 =>
    intro j u hj
    obtain ⟨g', o', e, c1⟩ := SRC.out j u hj
    exact ⟨g', o', e, cell_chg (chg_alloc (fun _ => False) w _) (fun e => e) c1⟩
  case a3 => intro e; cases e
  case a4 => exact wcells_one l
  case a5 => omega
  case a6 => unfold maxLen; omega
  case a7 => simp
  intro v8 w8 o8 g8
  obtain ⟨a8, c8, rfl⟩ := own_shape o8
  have k8 : Chg (fun _ => False) w w8 := (chg_alloc (fun _ => False) w (.cells #[] 23)).next (Chg.of_grown g8) (fun x hx e => by
    have e2 : w.heap.size = x := by simpa [Value.ownBlock] using e
    omega)
  have K8 := Lib.hid k8
  have O8 := Lib.hid (show w8.ownsRow w.heap.size 23 1 (.slice a8 (0 + l.length) c8) l.length (wcells l) from by simpa using o8)
  clear o8 g8 k8
  go_wp2
  go_ret
  exact ⟨_, rfl, (by have := O8.out; rw [Nat.zero_add] at this; exact this), K8.out⟩
/-- All cells of a certificate written. -/
theorem set7 {w : World} {b : Nat} {t : TypeId} {x0 x1 x2 x3 x4 x5 x6 : Value} (h : w.heap[b]? = some (.cells #[x0, x1, x2, x3, x4, x5, x6] t (0, 0))) (v0 v1 v2 v3 v4 v5 v6 : Value) (W : World) (hW : W = (((((((w.setCell ⟨b, 0, none⟩ v0).setCell ⟨b, 1, none⟩ v1).setCell ⟨b, 2, none⟩ v2).setCell ⟨b, 3, none⟩ v3).setCell ⟨b, 4, none⟩ v4).setCell ⟨b, 5, none⟩ v5).setCell ⟨b, 6, none⟩ v6)) :
    W.heap[b]? = some (.cells #[v0, v1, v2, v3, v4, v5, v6] t (0, 0)) ∧ Chg (· = b) w W := by
  subst hW
  have h0 : (w.setCell ⟨b, 0, none⟩ v0).heap[b]? = some (.cells #[v0, x1, x2, x3, x4, x5, x6] t (0, 0)) := obj_setCell (o := 0) h v0
  have h1 : ((w.setCell ⟨b, 0, none⟩ v0).setCell ⟨b, 1, none⟩ v1).heap[b]? = some (.cells #[v0, v1, x2, x3, x4, x5, x6] t (0, 0)) := obj_setCell (o := 1) h0 v1
  have h2 : (((w.setCell ⟨b, 0, none⟩ v0).setCell ⟨b, 1, none⟩ v1).setCell ⟨b, 2, none⟩ v2).heap[b]? = some (.cells #[v0, v1, v2, x3, x4, x5, x6] t (0, 0)) := obj_setCell (o := 2) h1 v2
  have h3 : ((((w.setCell ⟨b, 0, none⟩ v0).setCell ⟨b, 1, none⟩ v1).setCell ⟨b, 2, none⟩ v2).setCell ⟨b, 3, none⟩ v3).heap[b]? = some (.cells #[v0, v1, v2, v3, x4, x5, x6] t (0, 0)) := obj_setCell (o := 3) h2 v3
  have h4 : (((((w.setCell ⟨b, 0, none⟩ v0).setCell ⟨b, 1, none⟩ v1).setCell ⟨b, 2, none⟩ v2).setCell ⟨b, 3, none⟩ v3).setCell ⟨b, 4, none⟩ v4).heap[b]? = some (.cells #[v0, v1, v2, v3, v4, x5, x6] t (0, 0)) := obj_setCell (o := 4) h3 v4
  have h5 : ((((((w.setCell ⟨b, 0, none⟩ v0).setCell ⟨b, 1, none⟩ v1).setCell ⟨b, 2, none⟩ v2).setCell ⟨b, 3, none⟩ v3).setCell ⟨b, 4, none⟩ v4).setCell ⟨b, 5, none⟩ v5).heap[b]? = some (.cells #[v0, v1, v2, v3, v4, v5, x6] t (0, 0)) := obj_setCell (o := 5) h4 v5
  have h6 : (((((((w.setCell ⟨b, 0, none⟩ v0).setCell ⟨b, 1, none⟩ v1).setCell ⟨b, 2, none⟩ v2).setCell ⟨b, 3, none⟩ v3).setCell ⟨b, 4, none⟩ v4).setCell ⟨b, 5, none⟩ v5).setCell ⟨b, 6, none⟩ v6).heap[b]? = some (.cells #[v0, v1, v2, v3, v4, v5, v6] t (0, 0)) := obj_setCell (o := 6) h5 v6
  exact ⟨h6, (((((((Chg.refl (fun k => k = b) w).setCell (p := ⟨b, 0, none⟩) (fun _ => rfl) _).setCell (p := ⟨b, 1, none⟩) (fun _ => rfl) _).setCell (p := ⟨b, 2, none⟩) (fun _ => rfl) _).setCell (p := ⟨b, 3, none⟩) (fun _ => rfl) _).setCell (p := ⟨b, 4, none⟩) (fun _ => rfl) _).setCell (p := ⟨b, 5, none⟩) (fun _ => rfl) _).setCell (p := ⟨b, 6, none⟩) (fun _ => rfl) _⟩
set_option maxRecDepth 100000 in
theorem slclone_nil (w : World) : Calls Tryz.prog 65 #[.slice none 0 0] w fun e w' => e = .returned (.slice none 0 0) ∧ w = w' := by
  have EQN := fun w => Lib.run_eql_slice_nil (P := Tryz.prog) w 32 _ none 0 0 0 0 Tryz.underlying32
  go_enter Tryz.func65, Tryz.ntmps65
  go_wp2
  go_ret
  exact ⟨rfl, rfl⟩
set_option maxHeartbeats 2000000 in
set_option maxRecDepth 100000 in
theorem cclone_any (w : World) (c : BCert) (g o sc : Nat) (G : Nat → Prop) (hv : WordsAt w (.slice (some ⟨g, o, none⟩) c.fr.length sc) G c.fr) (hl : c.fr.length ≤ 1000) :
    Calls Tryz.prog 40 #[certV c (.slice (some ⟨g, o, none⟩) c.fr.length sc)] w fun e w' => ∃ v, e = .returned (certV c v) ∧ w'.ownsRow w.heap.size 23 1 v c.fr.length (wcells c.fr) ∧ Chg (fun _ => False) w w' := by
  have CL := Lib.hid (fun w1 (k : Chg (fun _ => False) w w1) => slclone_any w1 g o c.fr.length sc G c.fr (hv.chg k (fun _ _ e => e)) hl)
  clear hv
  obtain ⟨kind, sg, sp, fr, f, t, n⟩ := c
  unfold certV
  simp only at CL hl ⊢
  have p0 := obj_alloc_new w (.cells #[.int .i64 kind, .int .u16 (sg : Int), .string sp, .slice (some ⟨g, o, none⟩) fr.length sc, .int .i64 f, .int .i64 t, .int .i64 n] 34)
  have p1 := cell_of (o := 0) p0 rfl
  have p2 := cell_of (o := 1) p0 rfl
  have p3 := cell_of (o := 2) p0 rfl
  have p4 := cell_of (o := 3) p0 rfl
  have p5 := cell_of (o := 4) p0 rfl
  have p6 := cell_of (o := 5) p0 rfl
  have p7 := cell_of (o := 6) p0 rfl
  have F0 := frozen_of (o := 3) p0
  clear p0
  go_enter Tryz.func40, Tryz.ntmps40
  go_wp2_with fail
  have k1 := (chg_alloc (fun _ => False) w (.cells #[.int .i64 kind, .int .u16 (sg : Int), .string sp, .slice (some ⟨g, o, none⟩) fr.length sc, .int .i64 f, .int .i64 t, .int .i64 n] 34)).alloc (.cells #[.int .i64 0, .int .u16 0, .string ⟨#[]⟩, .slice none 0 0, .int .i64 0, .int .i64 0, .int .i64 0] 34)
  have C1 := Lib.hid (CL.out _ k1)
  have K1 := Lib.hid k1
  have u6 := obj_alloc (.cells #[.int .i64 0, .int .u16 0, .string ⟨#[]⟩, .slice none 0 0, .int .i64 0, .int .i64 0, .int .i64 0] 34) (obj_alloc_new w (.cells #[.int .i64 kind, .int .u16 (sg : Int), .string sp, .slice (some ⟨g, o, none⟩) fr.length sc, .int .i64 f, .int .i64 t, .int .i64 n] 34))
  have u7 := obj_alloc_new (w.alloc (.cells #[.int .i64 kind, .int .u16 (sg : Int), .string sp, .slice (some ⟨g, o, none⟩) fr.length sc, .int .i64 f, .int .i64 t, .int .i64 n] 34)) (.cells #[.int .i64 0, .int .u16 0, .string ⟨#[]⟩, .slice none 0 0, .int .i64 0, .int .i64 0, .int .i64 0] 34)
  rw [World.size_alloc] at u7
  have hsa : w.heap.size + 2 ≤ ((w.alloc (.cells #[.int .i64 kind, .int .u16 (sg : Int), .string sp, .slice (some ⟨g, o, none⟩) fr.length sc, .int .i64 f, .int .i64 t, .int .i64 n] 34)).alloc (.cells #[.int .i64 0, .int .u16 0, .string ⟨#[]⟩, .slice none 0 0, .int .i64 0, .int .i64 0, .int .i64 0] 34)).heap.size := by rw [World.size_alloc, World.size_alloc]; omega
  have U6 := Lib.hid u6
  have U7 := Lib.hid u7
  clear u6 u7 k1 CL p1 p2 p3 p4 p5 p6 p7 F0
  generalize (w.alloc (.cells #[.int .i64 kind, .int .u16 (sg : Int), .string sp, .slice (some ⟨g, o, none⟩) fr.length sc, .int .i64 f, .int .i64 t, .int .i64 n] 34)).alloc (.cells #[.int .i64 0, .int .u16 0, .string ⟨#[]⟩, .slice none 0 0, .int .i64 0, .int .i64 0, .int .i64 0] 34) = wa at *
  (with_reducible refine (C1.out).mono ?_)
  rintro e w2 ⟨v2, rfl, o2, k2⟩
  obtain ⟨a2, cp2, rfl⟩ := own_shape o2
  have o6 := k2.obj (fun e => e) U6.out
  have o7 := k2.obj (fun e => e) U7.out
  have c0 : w2.cell? ⟨w.heap.size, 0, none⟩ = some (.int .i64 kind) := cell_of o6 rfl
  have d0 : w2.cell? ⟨w.heap.size + 1, 0, none⟩ = some (.int .i64 0) := cell_of o7 rfl
  have e0 := frozen_of (o := 0) o7
  have c1 : w2.cell? ⟨w.heap.size, 1, none⟩ = some (.int .u16 (sg : Int)) := cell_of o6 rfl
  have d1 : w2.cell? ⟨w.heap.size + 1, 1, none⟩ = some (.int .u16 0) := cell_of o7 rfl
  have e1 := frozen_of (o := 1) o7
  have c2 : w2.cell? ⟨w.heap.size, 2, none⟩ = some (.string sp) := cell_of o6 rfl
  have d2 : w2.cell? ⟨w.heap.size + 1, 2, none⟩ = some (.string ⟨#[]⟩) := cell_of o7 rfl
  have e2 := frozen_of (o := 2) o7
  have c3 : w2.cell? ⟨w.heap.size, 3, none⟩ = some (.slice (some ⟨g, o, none⟩) fr.length sc) := cell_of o6 rfl
  have d3 : w2.cell? ⟨w.heap.size + 1, 3, none⟩ = some (.slice none 0 0) := cell_of o7 rfl
  have e3 := frozen_of (o := 3) o7
  have c4 : w2.cell? ⟨w.heap.size, 4, none⟩ = some (.int .i64 f) := cell_of o6 rfl
  have d4 : w2.cell? ⟨w.heap.size + 1, 4, none⟩ = some (.int .i64 0) := cell_of o7 rfl
  have e4 := frozen_of (o := 4) o7
  have c5 : w2.cell? ⟨w.heap.size, 5, none⟩ = some (.int .i64 t) := cell_of o6 rfl
  have d5 : w2.cell? ⟨w.heap.size + 1, 5, none⟩ = some (.int .i64 0) := cell_of o7 rfl
  have e5 := frozen_of (o := 5) o7
  have c6 : w2.cell? ⟨w.heap.size, 6, none⟩ = some (.int .i64 n) := cell_of o6 rfl
  have d6 : w2.cell? ⟨w.heap.size + 1, 6, none⟩ = some (.int .i64 0) := cell_of o7 rfl
  have e6 := frozen_of (o := 6) o7
  have f3 := frozen_of (o := 3) o6
  have O7 := Lib.hid o7
  have K2 := Lib.hid (K1.out.trans k2)
  have O2 := Lib.hid o2
  clear o2
  clear o6 o7 k2 K1 C1 U6 U7
  have HO := Lib.hid (show ∀ W, W = ((((((((w2.setCell ⟨w.heap.size, 3, none⟩ (.slice a2 fr.length cp2)).setCell ⟨w.heap.size + 1, 0, none⟩ (.int .i64 kind)).setCell ⟨w.heap.size + 1, 1, none⟩ (.int .u16 (sg : Int))).setCell ⟨w.heap.size + 1, 2, none⟩ (.string sp)).setCell ⟨w.heap.size + 1, 3, none⟩ (.slice a2 fr.length cp2)).setCell ⟨w.heap.size + 1, 4, none⟩ (.int .i64 f)).setCell ⟨w.heap.size + 1, 5, none⟩ (.int .i64 t)).setCell ⟨w.heap.size + 1, 6, none⟩ (.int .i64 n)) → World.ownsRow W w.heap.size 23 1 (.slice a2 fr.length cp2) fr.length (wcells fr) ∧ Chg (fun _ => False) w W ∧ W.cell? ⟨w.heap.size + 1, 0, none⟩ = some (.int .i64 kind) ∧ W.cell? ⟨w.heap.size + 1, 1, none⟩ = some (.int .u16 (sg : Int)) ∧ W.cell? ⟨w.heap.size + 1, 2, none⟩ = some (.string sp) ∧ W.cell? ⟨w.heap.size + 1, 3, none⟩ = some (.slice a2 fr.length cp2) ∧ W.cell? ⟨w.heap.size + 1, 4, none⟩ = some (.int .i64 f) ∧ W.cell? ⟨w.heap.size + 1, 5, none⟩ = some (.int .i64 t) ∧ W.cell? ⟨w.heap.size + 1, 6, none⟩ = some (.int .i64 n) from fun W hW => by
    have k3 : Chg (fun k => k = w.heap.size ∨ k = w.heap.size + 1) w2 (w2.setCell ⟨w.heap.size, 3, none⟩ (.slice a2 fr.length cp2)) := (Chg.refl _ w2).setCell (p := ⟨w.heap.size, 3, none⟩) (fun _ => .inl rfl) _
    obtain ⟨ob, k4⟩ := set7 ((obj_setCell_ne 3 (.slice a2 fr.length cp2) (show w.heap.size + 1 ≠ w.heap.size by omega)).trans O7.out) (.int .i64 kind) (.int .u16 (sg : Int)) (.string sp) (.slice a2 fr.length cp2) (.int .i64 f) (.int .i64 t) (.int .i64 n) W hW
    clear hW
    have kk : Chg (fun k => k = w.heap.size ∨ k = w.heap.size + 1) w2 W := k3.trans (k4.mono (fun _ _ e => .inr e))
    refine ⟨own_base (own_chg O2.out kk (fun k hk e => ?_)) (by omega), K2.out.next kk (fun k hk e => by omega), cell_of ob rfl, cell_of ob rfl, cell_of ob rfl, cell_of ob rfl, cell_of ob rfl, cell_of ob rfl, cell_of ob rfl⟩
    have := (O2.out.lt k hk).1
    omega)
  clear O2 K2 O7
  go_wp2
  obtain ⟨W, hW⟩ : ∃ W, W = ((((((((w2.setCell ⟨w.heap.size, 3, none⟩ (.slice a2 fr.length cp2)).setCell ⟨w.heap.size + 1, 0, none⟩ (.int .i64 kind)).setCell ⟨w.heap.size + 1, 1, none⟩ (.int .u16 (sg : Int))).setCell ⟨w.heap.size + 1, 2, none⟩ (.string sp)).setCell ⟨w.heap.size + 1, 3, none⟩ (.slice a2 fr.length cp2)).setCell ⟨w.heap.size + 1, 4, none⟩ (.int .i64 f)).setCell ⟨w.heap.size + 1, 5, none⟩ (.int .i64 t)).setCell ⟨w.heap.size + 1, 6, none⟩ (.int .i64 n)) := ⟨_, rfl⟩
  obtain ⟨h1, h2, z0, z1, z2, z3, z4, z5, z6⟩ := HO.out W hW
  rw [← hW]
  clear hW HO
  refine bodyPost_ret (v := .agg #[.int .i64 kind, .int .u16 (sg : Int), .string sp, .slice a2 fr.length cp2, .int .i64 f, .int .i64 t, .int .i64 n]) (by simp [results, Tryz.results40, go_sem, z0, z1, z2, z3, z4, z5, z6]) rfl ?_
  exact ⟨_, rfl, h1, h2⟩
set_option maxHeartbeats 2000000 in
set_option maxRecDepth 100000 in
theorem cclone_nil (w : World) (c : BCert) :
    Calls Tryz.prog 40 #[certV c (.slice none 0 0)] w fun e w' => e = .returned (certV c (.slice none 0 0)) ∧ Chg (fun _ => False) w w' := by
  have CL := Lib.hid slclone_nil
  obtain ⟨kind, sg, sp, fr, f, t, n⟩ := c
  unfold certV
  simp only
  have p0 := obj_alloc_new w (.cells #[.int .i64 kind, .int .u16 (sg : Int), .string sp, .slice none 0 0, .int .i64 f, .int .i64 t, .int .i64 n] 34)
  have p1 := cell_of (o := 0) p0 rfl
  have p2 := cell_of (o := 1) p0 rfl
  have p3 := cell_of (o := 2) p0 rfl
  have p4 := cell_of (o := 3) p0 rfl
  have p5 := cell_of (o := 4) p0 rfl
  have p6 := cell_of (o := 5) p0 rfl
  have p7 := cell_of (o := 6) p0 rfl
  have F0 := frozen_of (o := 3) p0
  clear p0
  go_enter Tryz.func40, Tryz.ntmps40
  go_wp2_with fail
  have k1 := (chg_alloc (fun _ => False) w (.cells #[.int .i64 kind, .int .u16 (sg : Int), .string sp, .slice none 0 0, .int .i64 f, .int .i64 t, .int .i64 n] 34)).alloc (.cells #[.int .i64 0, .int .u16 0, .string ⟨#[]⟩, .slice none 0 0, .int .i64 0, .int .i64 0, .int .i64 0] 34)
  have C1 := Lib.hid (CL.out ((w.alloc (.cells #[.int .i64 kind, .int .u16 (sg : Int), .string sp, .slice none 0 0, .int .i64 f, .int .i64 t, .int .i64 n] 34)).alloc (.cells #[.int .i64 0, .int .u16 0, .string ⟨#[]⟩, .slice none 0 0, .int .i64 0, .int .i64 0, .int .i64 0] 34)))
  have K1 := Lib.hid k1
  have u6 := obj_alloc (.cells #[.int .i64 0, .int .u16 0, .string ⟨#[]⟩, .slice none 0 0, .int .i64 0, .int .i64 0, .int .i64 0] 34) (obj_alloc_new w (.cells #[.int .i64 kind, .int .u16 (sg : Int), .string sp, .slice none 0 0, .int .i64 f, .int .i64 t, .int .i64 n] 34))
  have u7 := obj_alloc_new (w.alloc (.cells #[.int .i64 kind, .int .u16 (sg : Int), .string sp, .slice none 0 0, .int .i64 f, .int .i64 t, .int .i64 n] 34)) (.cells #[.int .i64 0, .int .u16 0, .string ⟨#[]⟩, .slice none 0 0, .int .i64 0, .int .i64 0, .int .i64 0] 34)
  rw [World.size_alloc] at u7
  have hsa : w.heap.size + 2 ≤ ((w.alloc (.cells #[.int .i64 kind, .int .u16 (sg : Int), .string sp, .slice none 0 0, .int .i64 f, .int .i64 t, .int .i64 n] 34)).alloc (.cells #[.int .i64 0, .int .u16 0, .string ⟨#[]⟩, .slice none 0 0, .int .i64 0, .int .i64 0, .int .i64 0] 34)).heap.size := by rw [World.size_alloc, World.size_alloc]; omega
  have U6 := Lib.hid u6
  have U7 := Lib.hid u7
  clear u6 u7 k1 CL p1 p2 p3 p4 p5 p6 p7 F0
  generalize (w.alloc (.cells #[.int .i64 kind, .int .u16 (sg : Int), .string sp, .slice none 0 0, .int .i64 f, .int .i64 t, .int .i64 n] 34)).alloc (.cells #[.int .i64 0, .int .u16 0, .string ⟨#[]⟩, .slice none 0 0, .int .i64 0, .int .i64 0, .int .i64 0] 34) = wa at *
  (with_reducible refine (C1.out).mono ?_)
  rintro e w2 ⟨rfl, rfl⟩
  have k2 := Chg.refl (fun _ => False) wa
  generalize hw2 : wa = w2 at U6 U7 K1 ⊢
  rw [hw2] at k2
  have o6 := U6.out
  have o7 := U7.out
  have c0 : w2.cell? ⟨w.heap.size, 0, none⟩ = some (.int .i64 kind) := cell_of o6 rfl
  have d0 : w2.cell? ⟨w.heap.size + 1, 0, none⟩ = some (.int .i64 0) := cell_of o7 rfl
  have e0 := frozen_of (o := 0) o7
  have c1 : w2.cell? ⟨w.heap.size, 1, none⟩ = some (.int .u16 (sg : Int)) := cell_of o6 rfl
  have d1 : w2.cell? ⟨w.heap.size + 1, 1, none⟩ = some (.int .u16 0) := cell_of o7 rfl
  have e1 := frozen_of (o := 1) o7
  have c2 : w2.cell? ⟨w.heap.size, 2, none⟩ = some (.string sp) := cell_of o6 rfl
  have d2 : w2.cell? ⟨w.heap.size + 1, 2, none⟩ = some (.string ⟨#[]⟩) := cell_of o7 rfl
  have e2 := frozen_of (o := 2) o7
  have c3 : w2.cell? ⟨w.heap.size, 3, none⟩ = some (.slice none 0 0) := cell_of o6 rfl
  have d3 : w2.cell? ⟨w.heap.size + 1, 3, none⟩ = some (.slice none 0 0) := cell_of o7 rfl
  have e3 := frozen_of (o := 3) o7
  have c4 : w2.cell? ⟨w.heap.size, 4, none⟩ = some (.int .i64 f) := cell_of o6 rfl
  have d4 : w2.cell? ⟨w.heap.size + 1, 4, none⟩ = some (.int .i64 0) := cell_of o7 rfl
  have e4 := frozen_of (o := 4) o7
  have c5 : w2.cell? ⟨w.heap.size, 5, none⟩ = some (.int .i64 t) := cell_of o6 rfl
  have d5 : w2.cell? ⟨w.heap.size + 1, 5, none⟩ = some (.int .i64 0) := cell_of o7 rfl
  have e5 := frozen_of (o := 5) o7
  have c6 : w2.cell? ⟨w.heap.size, 6, none⟩ = some (.int .i64 n) := cell_of o6 rfl
  have d6 : w2.cell? ⟨w.heap.size + 1, 6, none⟩ = some (.int .i64 0) := cell_of o7 rfl
  have e6 := frozen_of (o := 6) o7
  have f3 := frozen_of (o := 3) o6
  have O7 := Lib.hid o7
  have K2 := Lib.hid (K1.out)
  clear o6 o7 k2 K1 C1 U6 U7
  have HO := Lib.hid (show ∀ W, W = ((((((((w2.setCell ⟨w.heap.size, 3, none⟩ (.slice none 0 0)).setCell ⟨w.heap.size + 1, 0, none⟩ (.int .i64 kind)).setCell ⟨w.heap.size + 1, 1, none⟩ (.int .u16 (sg : Int))).setCell ⟨w.heap.size + 1, 2, none⟩ (.string sp)).setCell ⟨w.heap.size + 1, 3, none⟩ (.slice none 0 0)).setCell ⟨w.heap.size + 1, 4, none⟩ (.int .i64 f)).setCell ⟨w.heap.size + 1, 5, none⟩ (.int .i64 t)).setCell ⟨w.heap.size + 1, 6, none⟩ (.int .i64 n)) → Chg (fun _ => False) w W ∧ W.cell? ⟨w.heap.size + 1, 0, none⟩ = some (.int .i64 kind) ∧ W.cell? ⟨w.heap.size + 1, 1, none⟩ = some (.int .u16 (sg : Int)) ∧ W.cell? ⟨w.heap.size + 1, 2, none⟩ = some (.string sp) ∧ W.cell? ⟨w.heap.size + 1, 3, none⟩ = some (.slice none 0 0) ∧ W.cell? ⟨w.heap.size + 1, 4, none⟩ = some (.int .i64 f) ∧ W.cell? ⟨w.heap.size + 1, 5, none⟩ = some (.int .i64 t) ∧ W.cell? ⟨w.heap.size + 1, 6, none⟩ = some (.int .i64 n) from fun W hW => by
    have k3 : Chg (fun k => k = w.heap.size ∨ k = w.heap.size + 1) w2 (w2.setCell ⟨w.heap.size, 3, none⟩ (.slice none 0 0)) := (Chg.refl _ w2).setCell (p := ⟨w.heap.size, 3, none⟩) (fun _ => .inl rfl) _
    obtain ⟨ob, k4⟩ := set7 ((obj_setCell_ne 3 (.slice none 0 0) (show w.heap.size + 1 ≠ w.heap.size by omega)).trans O7.out) (.int .i64 kind) (.int .u16 (sg : Int)) (.string sp) (.slice none 0 0) (.int .i64 f) (.int .i64 t) (.int .i64 n) W hW
    clear hW
    have kk : Chg (fun k => k = w.heap.size ∨ k = w.heap.size + 1) w2 W := k3.trans (k4.mono (fun _ _ e => .inr e))
    exact ⟨K2.out.next kk (fun k hk e => by omega), cell_of ob rfl, cell_of ob rfl, cell_of ob rfl, cell_of ob rfl, cell_of ob rfl, cell_of ob rfl, cell_of ob rfl⟩)
  clear K2 O7
  go_wp2
  obtain ⟨W, hW⟩ : ∃ W, W = ((((((((w2.setCell ⟨w.heap.size, 3, none⟩ (.slice none 0 0)).setCell ⟨w.heap.size + 1, 0, none⟩ (.int .i64 kind)).setCell ⟨w.heap.size + 1, 1, none⟩ (.int .u16 (sg : Int))).setCell ⟨w.heap.size + 1, 2, none⟩ (.string sp)).setCell ⟨w.heap.size + 1, 3, none⟩ (.slice none 0 0)).setCell ⟨w.heap.size + 1, 4, none⟩ (.int .i64 f)).setCell ⟨w.heap.size + 1, 5, none⟩ (.int .i64 t)).setCell ⟨w.heap.size + 1, 6, none⟩ (.int .i64 n)) := ⟨_, rfl⟩
  obtain ⟨h2, z0, z1, z2, z3, z4, z5, z6⟩ := HO.out W hW
  rw [← hW]
  clear hW HO
  refine bodyPost_ret (v := .agg #[.int .i64 kind, .int .u16 (sg : Int), .string sp, .slice none 0 0, .int .i64 f, .int .i64 t, .int .i64 n]) (by simp [results, Tryz.results40, go_sem, z0, z1, z2, z3, z4, z5, z6]) rfl ?_
  exact ⟨rfl, h2⟩
end Go.Proofs.YtdgmjablkdemmaaGreat

namespace Go.Proofs.YtdgmjablkdemmaaGreat
open Go.RowKit Go.Maps

def holdsB (c : BCert) (t : Int) : Bool := decide (c.f ≤ t) && decide (t ≤ c.t)
set_option maxRecDepth 100000 in
theorem holds_any (w : World) (c : BCert) (sa : Option Addr) (sn sc : Nat) (t : Int) :
    Calls Tryz.prog 46 #[certV c (.slice sa sn sc), .int .i64 t] w fun e w' => e = .returned (.bool (holdsB c t)) ∧ Chg (fun _ => False) w w' := by
  obtain ⟨kind, sg, sp, fr, f, u, n⟩ := c
  unfold certV holdsB
  simp only
  have p0 := obj_alloc_new w (.cells #[.int .i64 kind, .int .u16 (sg : Int), .string sp, .slice sa sn sc, .int .i64 f, .int .i64 u, .int .i64 n] 34)
  have k0 := Lib.hid (chg_alloc (fun _ => False) w (.cells #[.int .i64 kind, .int .u16 (sg : Int), .string sp, .slice sa sn sc, .int .i64 f, .int .i64 u, .int .i64 n] 34))
  have p4 := cell_of (o := 4) p0 rfl
  have p5 := cell_of (o := 5) p0 rfl
  clear p0
  generalize hb1 : decide (f ≤ t) = b1
  generalize hb2 : decide (t ≤ u) = b2
  go_enter Tryz.func46, Tryz.ntmps46
  cases b1 with
  | true =>
    go_wp2
    go_ret
    exact ⟨rfl, k0.out⟩
  | false =>
    go_wp2
    go_ret
    exact ⟨rfl, k0.out⟩
set_option maxRecDepth 100000 in
theorem validF_any (w : World) (c : BCert) (sa : Option Addr) (sn sc : Nat) (t : Int) (bt : Nat) (ht : w.cell? ⟨bt, 0, none⟩ = some (.int .i64 t)) :
    Calls Tryz.prog 45 #[certV c (.slice sa sn sc), .pointer (some ⟨bt, 0, none⟩)] w fun e w' => e = .returned (.bool (holdsB c t)) ∧ Chg (fun _ => False) w w' := by
  have HO := Lib.hid (fun w => holds_any w c sa sn sc t)
  obtain ⟨kind, sg, sp, fr, f, u, n⟩ := c
  unfold certV at HO ⊢
  simp only at HO ⊢
  generalize holdsB ⟨kind, sg, sp, fr, f, u, n⟩ t = res at *
  have p0 := obj_alloc_new w (.cells #[.int .i64 kind, .int .u16 (sg : Int), .string sp, .slice sa sn sc, .int .i64 f, .int .i64 u, .int .i64 n] 34)
  have k0 := chg_alloc (fun _ => False) w (.cells #[.int .i64 kind, .int .u16 (sg : Int), .string sp, .slice sa sn sc, .int .i64 f, .int .i64 u, .int .i64 n] 34)
  have q0 := cell_chg k0 (fun e => e) ht
  have k0 := Lib.hid k0
  have p1 := cell_of (o := 0) p0 rfl
  have p2 := cell_of (o := 1) p0 rfl
  have p3 := cell_of (o := 2) p0 rfl
  have p4 := cell_of (o := 3) p0 rfl
  have p5 := cell_of (o := 4) p0 rfl
  have p6 := cell_of (o := 5) p0 rfl
  have p7 := cell_of (o := 6) p0 rfl
  clear p0 ht
  go_enter Tryz.func45, Tryz.ntmps45
  go_wp2_with fail
  generalize w.alloc (.cells #[.int .i64 kind, .int .u16 (sg : Int), .string sp, .slice sa sn sc, .int .i64 f, .int .i64 u, .int .i64 n] 34) = wa at *
  (with_reducible refine (HO.out wa).mono ?_)
  rintro e w2 ⟨rfl, k2⟩
  have k2 := Lib.hid (k0.out.trans k2)
  clear p1 p2 p3 p4 p5 p6 p7 q0 HO
  go_wp2
  go_ret
  exact ⟨rfl, k2.out⟩
set_option maxRecDepth 100000 in
theorem sweepF_any (w : World) (c : BCert) (sa : Option Addr) (sn sc : Nat) (t : Int) (bt : Nat) (ht : w.cell? ⟨bt, 0, none⟩ = some (.int .i64 t)) :
    Calls Tryz.prog 43 #[certV c (.slice sa sn sc), .pointer (some ⟨bt, 0, none⟩)] w fun e w' => e = .returned (.bool (decide (c.t < t))) ∧ Chg (fun _ => False) w w' := by
  obtain ⟨kind, sg, sp, fr, f, u, n⟩ := c
  unfold certV
  simp only
  have p0 := obj_alloc_new w (.cells #[.int .i64 kind, .int .u16 (sg : Int), .string sp, .slice sa sn sc, .int .i64 f, .int .i64 u, .int .i64 n] 34)
  have k0 := chg_alloc (fun _ => False) w (.cells #[.int .i64 kind, .int .u16 (sg : Int), .string sp, .slice sa sn sc, .int .i64 f, .int .i64 u, .int .i64 n] 34)
  have q0 := cell_chg k0 (fun e => e) ht
  have k0 := Lib.hid k0
  have p6 := cell_of (o := 5) p0 rfl
  clear p0 ht
  go_enter Tryz.func43, Tryz.ntmps43
  go_wp2
  go_ret
  exact ⟨rfl, k0.out⟩
end Go.Proofs.YtdgmjablkdemmaaGreat
