/-
  The reference's Cut, walked.
-/
import Derived.Test.YtjifdfhibkipnaaGreatQRef1
import Derived.Test.YtjifdfhibkipnaaGreatTree
namespace Go.Proofs.YtjifdfhibkipnaaGreat
open Go.RowKit Go.Maps

/-- Three boxes. -/
theorem box3 (w : World) (a b c : Obj) : Chg (fun _ => False) w (((w.alloc a).alloc b).alloc c) ∧ (((w.alloc a).alloc b).alloc c).heap[w.heap.size]? = some a ∧ (((w.alloc a).alloc b).alloc c).heap[w.heap.size + 1]? = some b ∧ (((w.alloc a).alloc b).alloc c).heap[w.heap.size + 2]? = some c ∧ (((w.alloc a).alloc b).alloc c).heap.size = w.heap.size + 3 := by
  have k1 := chg_alloc (fun _ => False) w a
  have k2 := chg_alloc (fun _ => False) (w.alloc a) b
  have k3 := chg_alloc (fun _ => False) ((w.alloc a).alloc b) c
  have o1 := obj_alloc_new w a
  have o2 := obj_alloc_new (w.alloc a) b
  have o3 := obj_alloc_new ((w.alloc a).alloc b) c
  rw [World.size_alloc] at o2
  rw [World.size_alloc, World.size_alloc] at o3
  exact ⟨(k1.trans k2).trans k3, (k2.trans k3).obj (fun e => e) o1, k3.obj (fun e => e) o2, o3, by rw [World.size_alloc, World.size_alloc, World.size_alloc]⟩
/-- The row of what is needed. -/
def NRow (w : World) (gn : Nat) (M : List Bool) : Prop := w.heap[gn]? = some (.cells (M.map Value.bool).toArray 4 (0, 0))
theorem NRow.set {w : World} {gn : Nat} {M : List Bool} (h : NRow w gn M) (i : Nat) (b : Bool) : NRow (w.setCell ⟨gn, i, none⟩ (.bool b)) gn (M.set i b) := by
  unfold NRow at h ⊢
  rw [obj_setCell (o := i) h (.bool b)]
  congr 2
  rw [List.map_set, List.setIfInBounds_toArray]
theorem NRow.chg {w w' : World} {gn : Nat} {M : List Bool} (h : NRow w gn M) (k : Chg (fun _ => False) w w') : NRow w' gn M := k.obj (fun e => e) h
theorem NRow.cell {w : World} {gn : Nat} {M : List Bool} (h : NRow w gn M) {i : Nat} {b : Bool} (hi : M[i]? = some b) : w.cell? ⟨gn, i, none⟩ = some (.bool b) := cell_of (o := i) h (by rw [List.getElem?_toArray, List.getElem?_map, hi]; rfl)
set_option maxHeartbeats 32000000 in
set_option maxRecDepth 100000 in
theorem rcut_any (w : World) (roots : Int) (v iv sv : Value) (P : List (BCert × Value)) (p : BProof) (G G' : Nat → Prop) (hv : CertsAt w v G P) (hp : ProofAt w iv sv G' p) (hG : ∀ k, G' k → k < w.heap.size) (hf : ProofFit p) (hI : p.items.length ≤ 1000) (hC : ∀ c ∈ certsOf P, c.fr.length ≤ 1000) (hL : p.steps.length ≤ 1000000) (hLs : ∀ x ∈ p.items, x.paths.length ≤ 1000 ∧ ∀ l ∈ x.paths, l.length ≤ 1000000) (hr1 : -9223372036854775808 ≤ roots) (hr2 : roots ≤ 1099511627776) :
    Calls Tryz.prog 20 #[.int .i64 roots, v, .agg #[iv, sv]] w (CutRes w roots (certsOf P) p) := by
  have HP := Lib.hid hp
  have HG := Lib.hid hG
  have HLS := Lib.hid hLs
  obtain ⟨la, lcap, hvs, _, _⟩ := id hv
  obtain ⟨ia, ic, rfl⟩ := hp.items.shape
  obtain ⟨sa, sc, rfl⟩ := hp.steps.shape
  have FS := Lib.hid (fun (s : Int × Int) (hs : s ∈ p.steps) => show s.2 ≤ 9223372036854775807 from (hf.steps s hs).2.2)
  have FI := Lib.hid (fun (k : Nat) (x : BItem) (hx : p.items[k]? = some x) (l : BSteps) (hl : l ∈ x.paths) (s : Int × Int) (hs : s ∈ l) => show s.2 ≤ 9223372036854775807 from ((hf.items x (List.mem_of_getElem? hx)).2 l hl s hs).2.2)
  have TB := Lib.hid (fun k (hk : k ≤ p.items.length) => show tot (certsOf P) p.items k ≤ 1000000 from Nat.le_trans (tot_bound hC p.items k) (by have := Nat.mul_le_mul_right 1000 (Nat.le_trans hk hI); omega))
  have TM := Lib.hid (fun k => tot_le (certsOf P) p.items k)
  have COK := Lib.hid (fun h0 hin hl hi => @cutOk_of roots (certsOf P) p h0 hin hl hi)
  have NOR := Lib.hid (fun (h : ¬ InRange (certsOf P) p.items) (q : CutOk roots (certsOf P) p) => h (cutOk_range q))
  have NOZ := Lib.hid (fun (h : roots < 0) (q : CutOk roots (certsOf P) p) => show False from by have := q.root; omega)
  have NOL := Lib.hid (fun (h : aheadB (roots + (tot (certsOf P) p.items p.items.length : Int)) p.steps = false) (q : CutOk roots (certsOf P) p) => show False from by have := cutOk_last q; rw [h] at this; cases this)
  have NOP := Lib.hid (fun (k : Nat) (x : BItem) (hx : p.items[k]? = some x) (l : BSteps) (hl : l ∈ x.paths) (h : aheadB (roots + (tot (certsOf P) p.items k : Int)) l = false) (q : CutOk roots (certsOf P) p) => show False from by have := cutOk_path q hx hl; rw [h] at this; cases this)
  have DE := Lib.hid (fun (q : CutOk roots (certsOf P) p) i (hi : i < p.items.length) => seeD_end q hi)
  have DS := Lib.hid (fun (i k : Nat) (x : BItem) (hx : p.items[k]? = some x) (h : i < k) => @seeD_succ roots (certsOf P) p i k x hx h)
  have D0 := Lib.hid (fun i => seeD_start roots (certsOf P) p i)
  have AL := Lib.hid (fun (k : Nat) (hk : k ≤ p.items.length) (l : BSteps) (hl : ∀ s ∈ l, s.2 < roots + tot (certsOf P) p.items k) => @ranew_list roots (certsOf P) p k hk l hl)
  have STD := Lib.hid (fun (q : CutOk roots (certsOf P) p) (k : Nat) (x : BItem) (hx : p.items[k]? = some x) (l : BSteps) (hl : l ∈ x.paths) (s : Int × Int) (hs : s ∈ l) => q.stands hx hl hs)
  have LST := Lib.hid (fun (q : CutOk roots (certsOf P) p) (s : Int × Int) (hs : s ∈ p.steps) => q.lasts hs)
  have CE := Lib.hid (show cutE roots (certsOf P) p = ⟨keepTo roots (begins (certsOf P) p.items) (goneTo (certsOf P) p.items (needB roots (begins (certsOf P) p.items) p)) (needB roots (begins (certsOf P) p.items) p) p.items p.items.length, anewL roots (begins (certsOf P) p.items) (goneTo (certsOf P) p.items (needB roots (begins (certsOf P) p.items) p)) p.steps⟩ from rfl)
  have NDD := Lib.hid (fun i => show needN roots (certsOf P) p i = (needB roots (begins (certsOf P) p.items) p).getD i false from rfl)
  obtain ⟨kw, o0, o1, o2, hsz⟩ := box3 w (.cells #[.slice ia p.items.length ic, .slice sa p.steps.length sc] 30) (.cells #[.slice none 0 0, .slice none 0 0] 30) (.cells #[.slice none 0 0, .slice none 0 0] 30)
  have FR := rfirsts_any _ roots v (.slice ia p.items.length ic) (.slice sa p.steps.length sc) P p G G' (hv.chg kw (fun _ _ e => e)) (hp.chg kw (fun _ _ e => e)) hI hC hr1 hr2
  unfold FirstRes at FR
  have FR := Lib.hid FR
  have K1 := Lib.hid kw
  have O0 := Lib.hid o0
  have O1 := Lib.hid o1
  have O2 := Lib.hid o2
  have q0 := cell_of (o := 0) o0 rfl
  have q1 := cell_of (o := 1) o0 rfl
  have HS := Lib.hid hsz
  subst hvs
  unfold CutRes
  obtain ⟨T, hT⟩ : ∃ T : Nat → Nat, T = tot (certsOf P) p.items := ⟨_, rfl⟩
  obtain ⟨N, hN⟩ : ∃ N : Nat → Bool, N = needN roots (certsOf P) p := ⟨_, rfl⟩
  obtain ⟨U, hU⟩ : ∃ U : Nat → List BSteps → Bool, U = useX roots (certsOf P) p := ⟨_, rfl⟩
  have UX := Lib.hid (fun i ps => show U i ps = ps.any (usesB (roots + (T i : Int)) (roots + (T (i + 1) : Int))) from by rw [hU, hT]; rfl)
  simp only [← hT, ← hN, ← hU] at TB TM COK NOL NOP DE DS D0 AL STD LST NDD FR
  obtain ⟨D, hD⟩ : ∃ D : Nat → Nat → Bool, D = seeD roots (certsOf P) p := ⟨_, rfl⟩
  simp only [← hD] at DE DS D0
  obtain ⟨need, hneed⟩ : ∃ need : List Bool, need = needB roots (begins (certsOf P) p.items) p := ⟨_, rfl⟩
  rw [← hneed] at CE
  simp only [← hneed] at AL NDD
  obtain ⟨GT, hGT⟩ : ∃ GT : Nat → Nat, GT = goneTo (certsOf P) p.items need := ⟨_, rfl⟩
  rw [← hGT] at CE
  simp only [← hGT] at AL
  obtain ⟨B, hB⟩ : ∃ B : List Nat, B = begins (certsOf P) p.items := ⟨_, rfl⟩
  rw [← hB] at CE
  simp only [← hB] at AL
  generalize cutE roots (certsOf P) p = RES at *
  generalize CutOk roots (certsOf P) p = OK at *
  clear hv hp hG hf hC hLs kw o0 o1 o2 hsz hT hN hU hD hneed hGT hB
  generalize InRange (certsOf P) p.items = IR at *
  go_enter Tryz.func20, Tryz.ntmps20
  go_wp2_with fail
  clear q0 q1
  generalize ((w.alloc (.cells #[.slice ia p.items.length ic, .slice sa p.steps.length sc] 30)).alloc (.cells #[.slice none 0 0, .slice none 0 0] 30)).alloc (.cells #[.slice none 0 0, .slice none 0 0] 30) = w1 at *
  (with_reducible refine (FR.out).mono ?_)
  rintro e w2 ⟨k2, hres⟩
  have KK2 := Lib.hid (K1.out.trans k2)
  have HZ2 := Lib.hid (show w.heap.size + 3 ≤ w2.heap.size from by have := k2.size; have := HS.out; omega)
  have HZ1 := Lib.hid (show w.heap.size ≤ w1.heap.size from by have := HS.out; omega)
  have P0 := Lib.hid (k2.obj (fun e => e) O0.out)
  have P1 := Lib.hid (k2.obj (fun e => e) O1.out)
  have P2 := Lib.hid (k2.obj (fun e => e) O2.out)
  have FAIL := Lib.hid (fun (wr : World) (kr : Chg (fun _ => False) w2 wr) (W : World) (hW : W = (wr.setCell ⟨w.heap.size + 1, 0, none⟩ (.slice none 0 0)).setCell ⟨w.heap.size + 1, 1, none⟩ (.slice none 0 0)) => show Chg (fun _ => False) w W ∧ W.cell? ⟨w.heap.size + 1, 0, none⟩ = some (.slice none 0 0) ∧ W.cell? ⟨w.heap.size + 1, 1, none⟩ = some (.slice none 0 0) from by
    obtain ⟨ob, kW⟩ := set2 (kr.obj (fun e => e) P1.out) _ _ W hW
    exact ⟨(KK2.out.trans kr).next kW (fun i hi e => by omega), cell_of ob rfl, cell_of ob rfl⟩)
  have NONE := Lib.hid (fun (wr : World) (kr : Chg (fun _ => False) w2 wr) => show wr.cell? ⟨w.heap.size + 2, 0, none⟩ = some (.slice none 0 0) ∧ wr.cell? ⟨w.heap.size + 2, 1, none⟩ = some (.slice none 0 0) ∧ wr.cell? ⟨w.heap.size + 1, 0, none⟩ = some (.slice none 0 0) ∧ wr.cell? ⟨w.heap.size + 1, 1, none⟩ = some (.slice none 0 0) ∧ wr.frozen? ⟨w.heap.size + 1, 0, none⟩ = false ∧ wr.frozen? ⟨w.heap.size + 1, 1, none⟩ = false from by
    have a1 := kr.obj (fun e => e) P1.out
    have a2 := kr.obj (fun e => e) P2.out
    exact ⟨cell_of (o := 0) a2 rfl, cell_of (o := 1) a2 rfl, cell_of (o := 0) a1 rfl, cell_of (o := 1) a1 rfl, frozen_of (o := 0) a1, frozen_of (o := 1) a1⟩)
  clear FR O0 O1 O2 K1 HS
  rcases hres with ⟨hin, fv, rfl, hrow⟩ | ⟨hno, rfl⟩
  rotate_left
  · as_aux_lemma =>
    have NO := Lib.hid (NOR.out hno)
    have K2D := Lib.hid (fun n => (Chg.refl (fun _ => False) w2).drewN n)
    clear hno k2
    cases hr0 : decide (roots < 0) with
    | true =>
      go_wp2_with fail
      go_quiet (fail)
      rename_i nq
      obtain ⟨n0, n1, d0, d1, e0, e1⟩ := NONE.out _ (K2D.out nq)
      go_wp2
      obtain ⟨W, hW⟩ : ∃ W, W = ((w2.drewN nq).setCell ⟨w.heap.size + 1, 0, none⟩ (.slice none 0 0)).setCell ⟨w.heap.size + 1, 1, none⟩ (.slice none 0 0) := ⟨_, rfl⟩
      rw [← hW]
      obtain ⟨kf, z0, z1⟩ := FAIL.out _ (K2D.out nq) W hW
      clear hW
      refine bodyPost_ret (v := .tuple #[.agg #[.slice none 0 0, .slice none 0 0], .int .i64 2]) (by simp [results, Tryz.results20, go_sem, z0, z1]) rfl ?_
      exact ⟨kf, .inr ⟨NO.out, rfl⟩⟩
    | false =>
      go_wp2_with fail
      go_quiet (fail)
      rename_i nq
      obtain ⟨n0, n1, d0, d1, e0, e1⟩ := NONE.out _ (K2D.out nq)
      go_wp2
      obtain ⟨W, hW⟩ : ∃ W, W = ((w2.drewN nq).setCell ⟨w.heap.size + 1, 0, none⟩ (.slice none 0 0)).setCell ⟨w.heap.size + 1, 1, none⟩ (.slice none 0 0) := ⟨_, rfl⟩
      rw [← hW]
      obtain ⟨kf, z0, z1⟩ := FAIL.out _ (K2D.out nq) W hW
      clear hW
      refine bodyPost_ret (v := .tuple #[.agg #[.slice none 0 0, .slice none 0 0], .int .i64 2]) (by simp [results, Tryz.results20, go_sem, z0, z1]) rfl ?_
      exact ⟨kf, .inr ⟨NO.out, rfl⟩⟩
  have HIN := Lib.hid hin
  obtain ⟨fb, fc, rfl⟩ : ∃ fb fc, fv = .slice (some ⟨fb, 0, none⟩) (p.items.length + 1) fc := by
    obtain ⟨fa, fc, rfl⟩ := own_shape hrow
    obtain ⟨g, rfl⟩ := own_some hrow (by omega)
    exact ⟨g, fc, rfl⟩
  have F2 := Lib.hid (fun k (hk : k ≤ p.items.length) => show w2.cell? ⟨fb, k, none⟩ = some (.int .i64 (roots + (T k : Int))) from by
    have := hrow.cellAt (j := k) (by omega)
    rw [firstC_get (by omega)] at this
    exact this)
  have hfb2 : fb < w2.heap.size := (hrow.lt fb rfl).2
  have hfb1 : w1.heap.size ≤ fb := (hrow.lt fb rfl).1
  clear hrow hin k2 NOR
  cases hr0 : decide (roots < 0) with
  | true =>
    as_aux_lemma =>
    have NO := Lib.hid (NOZ.out (of_decide_eq_true hr0))
    have K2D := Lib.hid (fun n => (Chg.refl (fun _ => False) w2).drewN n)
    go_wp2_with fail
    go_quiet (fail)
    rename_i nq
    obtain ⟨n0, n1, d0, d1, e0, e1⟩ := NONE.out _ (K2D.out nq)
    go_wp2
    obtain ⟨W, hW⟩ : ∃ W, W = ((w2.drewN nq).setCell ⟨w.heap.size + 1, 0, none⟩ (.slice none 0 0)).setCell ⟨w.heap.size + 1, 1, none⟩ (.slice none 0 0) := ⟨_, rfl⟩
    rw [← hW]
    obtain ⟨kf, z0, z1⟩ := FAIL.out _ (K2D.out nq) W hW
    clear hW
    refine bodyPost_ret (v := .tuple #[.agg #[.slice none 0 0, .slice none 0 0], .int .i64 2]) (by simp [results, Tryz.results20, go_sem, z0, z1]) rfl ?_
    exact ⟨kf, .inr ⟨NO.out, rfl⟩⟩
  | false =>
  have h0 : 0 ≤ roots := by have := of_decide_eq_false hr0; omega
  have tn := TB.out p.items.length (Nat.le_refl _)
  have x1 : IntKind.i64.wrap ((p.items.length : Int) + 1 - 1) = (p.items.length : Int) := by rw [IntKind.wrap_i64] <;> omega
  have x2 : IntKind.i64.wrap (((p.items.length + 1 : Nat) : Int) - 1) = (p.items.length : Int) := by rw [IntKind.wrap_i64] <;> omega
  have x3 : IntKind.i64.wrap (p.items.length : Int) = (p.items.length : Int) := by rw [IntKind.wrap_i64] <;> omega
  have x4 : (p.items.length : Int) < (p.items.length : Int) + 1 := by omega
  have q1 := cell_of (o := 1) P0.out rfl
  have f1 := F2.out p.items.length (Nat.le_refl _)
  obtain ⟨ab, hab⟩ : ∃ ab, ab = aheadB (roots + (T p.items.length : Int)) p.steps := ⟨_, rfl⟩
  have AH0 := Lib.hid (fun (W : World) (k : Chg (fun _ => False) w2 W) => rahead_any W (.slice sa p.steps.length sc) G' p.steps (roots + (T p.items.length : Int)) (HP.out.steps.chg (KK2.out.trans k) (fun _ _ e => e)).at_)
  rw [← hab] at AH0 NOL COK
  clear hab
  go_wp2_with fail
  refine wp_region_plan (N := 223) [.rd [0, 1, 2, 3, 4, 5, 6, 7, 8, 9, 10, 11, 12, 13, 14], .ef 15, .rd [16, 17]] (fun W => W.cell? ⟨w.heap.size, 1, none⟩ = some (.slice sa p.steps.length sc) ∧ W.cell? ⟨fb, p.items.length, none⟩ = some (.int .i64 (roots + (T p.items.length : Int)))) (by kernel_rfl) (by kernel_rfl) (by kernel_rfl) (by kernel_rfl) (Nat.le_of_ble_eq_true rfl) ⟨q1, f1⟩ ?_
  refine plan_rd (A := ?A1) ?h1 ?h2
  case h1 =>
    rintro w' ⟨z0, z1⟩ K hK
    simp only [opsAt, List.filterMap_cons, List.filterMap_nil, List.getElem?_toArray, List.getElem?_cons_succ, List.getElem?_cons_zero]
    refine WS.out ?_
    repeat (refine ws_step (fun K hK => ?_); go_simp; refine hK _ ?_; clear hK K)
    refine ws_nil ?_
    exact hK
  have KD := Lib.hid (chg_drew (fun _ => False) w2)
  have AH := Lib.hid (AH0.out _ KD.out)
  clear q1 f1 AH0
  generalize w2.drew = wd at *
  refine plan_ef rfl ?_
  go_wp2_with fail
  (with_reducible refine (AH.out).mono ?_)
  rintro e w4 ⟨rfl, k4⟩
  have K4 := Lib.hid (KD.out.trans k4)
  have q1 := cell_of (o := 1) (K4.out.obj (fun e => e) P0.out) rfl
  have f1 := cell_chg K4.out (fun e => e) (F2.out p.items.length (Nat.le_refl _))
  clear k4 KD AH
  go_wp2_with fail
  refine ⟨⟨q1, f1⟩, ?_⟩
  refine plan_rd (A := ?A2) ?h3 ?h4
  case h3 =>
    rintro w' z0 K hK
    simp only [opsAt, List.filterMap_cons, List.filterMap_nil, List.getElem?_toArray, List.getElem?_cons_succ, List.getElem?_cons_zero]
    refine WS.out ?_
    repeat (refine ws_step (fun K hK => ?_); go_simp; refine hK _ ?_; clear hK K)
    refine ws_nil ?_
    exact hK
  refine plan_nil ?_
  clear q1 f1
  cases ab with
  | false =>
    as_aux_lemma =>
    have NO := Lib.hid (NOL.out rfl)
    obtain ⟨n0, n1, d0, d1, e0, e1⟩ := NONE.out _ K4.out
    go_wp2
    obtain ⟨W, hW⟩ : ∃ W, W = (w4.setCell ⟨w.heap.size + 1, 0, none⟩ (.slice none 0 0)).setCell ⟨w.heap.size + 1, 1, none⟩ (.slice none 0 0) := ⟨_, rfl⟩
    rw [← hW]
    obtain ⟨kf, z0, z1⟩ := FAIL.out _ K4.out W hW
    clear hW
    refine bodyPost_ret (v := .tuple #[.agg #[.slice none 0 0, .slice none 0 0], .int .i64 2]) (by simp [results, Tryz.results20, go_sem, z0, z1]) rfl ?_
    exact ⟨kf, .inr ⟨NO.out, rfl⟩⟩
  | true =>
  clear NOL NOZ hr0
  go_wp2
  go_loopw [11] (fun iv wr => ∃ k : Nat, k ≤ p.items.length ∧ iv = .int .i64 k ∧ Hid (Chg (fun _ => False) w2 wr ∧ ∀ (j : Nat) x, j < k → p.items[j]? = some x → ∀ (m : Nat) l, x.paths[m]? = some l → aheadB (roots + (T j : Int)) l = true)) (fun iv _ => p.items.length - (intOf iv).toNat)
  case atStart => exact ⟨0, by omega, rfl, Lib.hid ⟨K4.out, fun j x hj => by omega⟩⟩
  case round =>
    obtain ⟨k, hk, rfl, HI⟩ := hrel
    have KC := Lib.hid HI.out.1
    have ALL := Lib.hid HI.out.2
    have q0 := cell_of (o := 0) (KC.out.obj (fun e => e) P0.out) rfl
    clear HI K4
    by_cases hlt : k < p.items.length
    · as_aux_lemma =>
      have g0 : decide ((k : Int) < (p.items.length : Int)) = true := decide_eq_true (by omega)
      have g0' : decide (k < p.items.length) = true := decide_eq_true hlt
      have y4 : (k : Int) < (p.items.length : Int) + 1 := by omega
      obtain ⟨x, hx⟩ : ∃ x, p.items[k]? = some x := ⟨_, List.getElem?_eq_getElem hlt⟩
      obtain ⟨_, _, e1, _, hcl⟩ := HP.out.items
      cases e1
      obtain ⟨lb, lo, pv, rfl, _, _, j1, hpa⟩ := hcl k _ hx
      have hpl := hpa.len
      obtain ⟨pa, pc, rfl⟩ := hpa.shape
      have HPA := Lib.hid hpa
      have J1 := Lib.hid j1
      have NPX := Lib.hid (fun l (hl : l ∈ x.paths) h => NOP.out k x hx l hl h)
      have NX := Lib.hid (fun (q : ∀ (m : Nat) l, x.paths[m]? = some l → aheadB (roots + (T k : Int)) l = true) => show ∀ (j : Nat) y, j < k + 1 → p.items[j]? = some y → ∀ (m : Nat) l, y.paths[m]? = some l → aheadB (roots + (T j : Int)) l = true from fun j y hj hy => by
        rcases Nat.lt_or_ge j k with z | z
        · exact ALL.out j y z hy
        · obtain rfl : j = k := by omega
          rw [hx] at hy
          cases hy
          exact q)
      obtain ⟨cert, paths⟩ := x
      simp only at hpl HPA J1 NPX NX
      clear hcl hx hpa j1 ALL
      go_wp2_with fail
      clear q0
      go_loopw [12] (fun jv wr => ∃ j : Nat, j ≤ paths.length ∧ jv = .int .i64 j ∧ Hid (Chg (fun _ => False) w2 wr ∧ ∀ (m : Nat) l, m < j → paths[m]? = some l → aheadB (roots + (T k : Int)) l = true)) (fun jv _ => paths.length - (intOf jv).toNat)
      case atStart => exact ⟨0, by omega, rfl, Lib.hid ⟨KC.out, fun m l hm => by omega⟩⟩
      case round =>
        obtain ⟨j, hj, rfl, HJ⟩ := hrel
        have KJ := Lib.hid HJ.out.1
        have ALJ := Lib.hid HJ.out.2
        have q0 := cell_of (o := 0) (KJ.out.obj (fun e => e) P0.out) rfl
        have i1 := cell_chg (KK2.out.trans KJ.out) (fun e => e) J1.out
        clear HJ KC
        by_cases hjl : j < paths.length
        · as_aux_lemma =>
          have g1 : decide ((j : Int) < (paths.length : Int)) = true := decide_eq_true (by omega)
          have g1' : decide (j < paths.length) = true := decide_eq_true hjl
          obtain ⟨l, hl⟩ : ∃ l, paths[j]? = some l := ⟨_, List.getElem?_eq_getElem hjl⟩
          obtain ⟨_, _, e1, _, hcl⟩ := HPA.out
          cases e1
          obtain ⟨lb2, lo2, pv2, rfl, _, s0, hst⟩ := hcl j l hl
          obtain ⟨qa, qc, rfl⟩ := hst.shape
          have HST := Lib.hid hst
          have r0 := cell_chg (KK2.out.trans KJ.out) (fun e => e) s0
          have f0 := cell_chg KJ.out (fun e => e) (F2.out k hk)
          have NPL := Lib.hid (NPX.out l (List.mem_of_getElem? hl))
          have NXJ := Lib.hid (fun (q : aheadB (roots + (T k : Int)) l = true) => show ∀ (m : Nat) l', m < j + 1 → paths[m]? = some l' → aheadB (roots + (T k : Int)) l' = true from fun m l' hm hl' => by
            rcases Nat.lt_or_ge m j with z | z
            · exact ALJ.out m l' z hl'
            · obtain rfl : m = j := by omega
              rw [hl] at hl'
              cases hl'
              exact q)
          obtain ⟨ab, hab⟩ : ∃ ab, ab = aheadB (roots + (T k : Int)) l := ⟨_, rfl⟩
          have AH0 := Lib.hid (fun (W : World) (k' : Chg (fun _ => False) wr W) => rahead_any W (.slice qa l.length qc) G' l (roots + (T k : Int)) (HST.out.chg (KK2.out.trans (KJ.out.trans k')) (fun _ _ e => e)).at_)
          rw [← hab] at AH0 NPL NXJ
          clear hab hcl hl hst s0
          go_wp2_with fail
          refine wp_region_plan (N := 223) [.rd [0, 1, 2, 3, 4, 5, 6, 7, 8, 9, 10, 11, 12], .ef 13, .rd [14]] (fun W => W.cell? ⟨w.heap.size, 0, none⟩ = some (.slice (some ⟨lb, lo, none⟩) p.items.length ic) ∧ W.cell? ⟨lb, lo + k * 2 + 1, none⟩ = some (.slice (some ⟨lb2, lo2, none⟩) paths.length pc) ∧ W.cell? ⟨lb2, lo2 + j, none⟩ = some (.slice qa l.length qc) ∧ W.cell? ⟨fb, k, none⟩ = some (.int .i64 (roots + (T k : Int)))) (by kernel_rfl) (by kernel_rfl) (by kernel_rfl) (by kernel_rfl) (Nat.le_of_ble_eq_true rfl) ⟨q0, i1, r0, f0⟩ ?_
          refine plan_rd (A := ?B1) ?n1 ?n2
          case n1 =>
            rintro w' ⟨z0, z1, z2, z3⟩ K hK
            simp only [opsAt, List.filterMap_cons, List.filterMap_nil, List.getElem?_toArray, List.getElem?_cons_succ, List.getElem?_cons_zero]
            repeat still_step
            refine wpStill_nil ?_
            exact hK
          have KD := Lib.hid (chg_drew (fun _ => False) wr)
          have AH := Lib.hid (AH0.out _ KD.out)
          have SS := Lib.hid (fun (W : World) (k' : Chg (fun _ => False) wr W) => And.intro (cell_chg k' (fun e => e) q0) (And.intro (cell_chg k' (fun e => e) i1) (And.intro (cell_chg k' (fun e => e) r0) (cell_chg k' (fun e => e) f0))))
          clear q0 i1 r0 f0 AH0
          generalize wr.drew = wd at *
          refine plan_ef rfl ?_
          go_wp2_with fail
          (with_reducible refine (AH.out).mono ?_)
          rintro e w5 ⟨rfl, k5⟩
          have K5 := Lib.hid (KJ.out.trans (KD.out.trans k5))
          have ss := SS.out _ (KD.out.trans k5)
          clear k5 KD AH SS
          go_wp2_with fail
          refine ⟨ss, ?_⟩
          clear ss
          refine plan_rd (A := ?B2) ?n3 ?n4
          case n3 =>
            rintro w' z0 K hK
            simp only [opsAt, List.filterMap_cons, List.filterMap_nil, List.getElem?_toArray, List.getElem?_cons_succ, List.getElem?_cons_zero]
            repeat still_step
            refine wpStill_nil ?_
            exact hK
          refine plan_nil ?_
          cases ab with
          | false =>
            have NO := Lib.hid (NPL.out rfl)
            obtain ⟨n0, n1, d0, d1, e0, e1⟩ := NONE.out _ K5.out
            go_wp2
            obtain ⟨W, hW⟩ : ∃ W, W = (w5.setCell ⟨w.heap.size + 1, 0, none⟩ (.slice none 0 0)).setCell ⟨w.heap.size + 1, 1, none⟩ (.slice none 0 0) := ⟨_, rfl⟩
            rw [← hW]
            obtain ⟨kf, z0, z1⟩ := FAIL.out _ K5.out W hW
            clear hW
            refine bodyPost_ret (v := .tuple #[.agg #[.slice none 0 0, .slice none 0 0], .int .i64 2]) (by simp [results, Tryz.results20, go_sem, z0, z1]) rfl ?_
            exact ⟨kf, .inr ⟨NO.out, rfl⟩⟩
          | true =>
            have R := Lib.hid (NXJ.out rfl)
            go_wp2
            go_roundw
            case rel => exact ⟨j + 1, by omega, by go_num, Lib.hid ⟨K5.out, R.out⟩⟩
            case measure => simp [intOf]; omega
        · as_aux_lemma =>
          obtain rfl : j = paths.length := by omega
          have g1 : decide ((paths.length : Int) < (paths.length : Int)) = false := decide_eq_false (by omega)
          have g1' : decide (paths.length < paths.length) = false := decide_eq_false (by omega)
          have R := Lib.hid (NX.out (fun m l hm => ALJ.out m l (List.getElem?_eq_some_iff.1 hm).1 hm))
          go_wp2
          go_roundw
          case rel => exact ⟨k + 1, by omega, by go_num, Lib.hid ⟨KJ.out, R.out⟩⟩
          case measure => simp [intOf]; omega
    obtain rfl : k = p.items.length := by omega
    have HOK := Lib.hid (COK.out h0 HIN.out (by first | trivial | rfl) (fun j x hx m l hm => ALL.out j x (List.getElem?_eq_some_iff.1 hx).1 hx m l hm))
    clear ALL COK NOP HIN FAIL NONE x1 x2 x3 x4
    have g0 : decide ((p.items.length : Int) < (p.items.length : Int)) = false := decide_eq_false (by omega)
    have g0' : decide (p.items.length < p.items.length) = false := decide_eq_false (by omega)
    obtain ⟨bi, hbi, hbz, hb1, hb2⟩ := Tryz.boolInfo
    have hwz : w.heap.size ≤ wr.heap.size := by have := KC.out.size; have := HZ2.out; omega
    go_wp2_with (at_make; refine wpList_make_full _ rfl (.tmp 84) (.tmp 84) 77 rfl w.heap.size 4 bi (.bool false) 1 Tryz.underlying77 hbi hbz hb1 .i64 .i64 (p.items.length : Int) (p.items.length : Int) p.items.length rfl rfl rfl rfl ?mb2 ?mb3 ?mb4 ?mnext)
    case mb2 => rw [hb2]; omega
    case mb3 => unfold maxLen; omega
    case mb4 => exact hwz
    intro wC ownC gC
    obtain ⟨hnd, _, _⟩ := own_obj13 ownC
    have hmb := madeB p.items.length
    have kC := (Chg.of_grown gC).mono (T := fun _ => False) (fun _ _ e => by cases e)
    have KCC := Lib.hid (KC.out.trans kC)
    have GNZ := Lib.hid (show fb < wr.heap.size ∧ w.heap.size + 3 ≤ wr.heap.size ∧ wr.heap.size < wC.heap.size from ⟨by have := KC.out.size; omega, by have := KC.out.size; have := HZ2.out; omega, (ownC.lt _ rfl).2⟩)
    have NR0 := Lib.hid (show NRow wC wr.heap.size (List.replicate p.items.length false) from by
      unfold NRow
      rw [← hmb]
      exact hnd)
    clear ownC gC hnd hmb kC KC q0 hwz hbi hbz hb1 hb2
    generalize wr.heap.size = gn at *
    have KWX := Lib.hid (fun (W : World) (kW : Chg (fun j => j = gn) wC W) => show Chg (fun _ => False) w W from (KK2.out.trans KCC.out).next kW (fun i hi e => by have := GNZ.out.2.1; omega))
    have PX := Lib.hid (fun (W : World) (kW : Chg (fun j => j = gn) wC W) => And.intro (kW.obj (show ¬ w.heap.size = gn from fun e => by have := GNZ.out.2.1; omega) (KCC.out.obj (fun e => e) P0.out)) (kW.obj (show ¬ w.heap.size + 1 = gn from fun e => by have := GNZ.out.2.1; omega) (KCC.out.obj (fun e => e) P1.out)))
    have FX := Lib.hid (fun (W : World) (kW : Chg (fun j => j = gn) wC W) (k : Nat) (hk : k ≤ p.items.length) => cell_chg kW (show ¬ fb = gn from fun e => by have := GNZ.out.1; omega) (cell_chg KCC.out (fun e => e) (F2.out k hk)))
    have m1 : IntKind.i64.wrap ((p.items.length : Int) - 1) = (p.items.length : Int) - 1 := by rw [IntKind.wrap_i64] <;> omega
    have c0 := cell_of (o := 0) (PX.out wC (Chg.refl _ _)).1 rfl
    go_wp2
    clear c0 m1
    go_loopw [14] (fun iv wr => ∃ (k : Nat) (M : List Bool), k ≤ p.items.length ∧ iv = .int .i64 ((k : Int) - 1) ∧ Hid (NRow wr gn M ∧ M.length = p.items.length ∧ (∀ j, k ≤ j → j < p.items.length → M[j]? = some (N j)) ∧ Chg (fun j => j = gn) wC wr)) (fun iv _ => (intOf iv + 1).toNat)
    case atStart => exact ⟨p.items.length, _, Nat.le_refl _, by first | rfl | simp, Lib.hid ⟨NR0.out, List.length_replicate, fun j h1 h2 => by omega, Chg.refl _ _⟩⟩
    case round =>
      obtain ⟨k, M, hk, rfl, HI⟩ := hrel
      have NR := Lib.hid HI.out.1
      have ML := Lib.hid HI.out.2.1
      have MN := Lib.hid HI.out.2.2.1
      have KR := Lib.hid HI.out.2.2.2
      clear HI NR0
      cases k with
      | zero =>
        as_aux_lemma =>
        have g1 : decide ((0 : Int) ≤ ((0 : Nat) : Int) - 1) = false := decide_eq_false (by omega)
        have g2 : decide ((0 : Int) ≤ -1) = false := decide_eq_false (by omega)
        have KWR := Lib.hid (KWX.out wr KR.out)
        have RA := Lib.hid (show RowsAt wr fb fc gn (some ⟨gn, 0, none⟩) p.items.length roots T p.items.length N from ⟨fun k hk => FX.out wr KR.out k hk, fun k hk => ⟨rfl, NR.out.cell (MN.out k (Nat.zero_le _) hk)⟩⟩)
        have P0R := Lib.hid (PX.out wr KR.out).1
        have P1R := Lib.hid (PX.out wr KR.out).2
        have RANY := Lib.hid (fun (W : World) (hra : RowsAt W fb fc gn (some ⟨gn, 0, none⟩) p.items.length roots T p.items.length N) (sv : Value) (l : BSteps) (hl : StepsN W sv G' l) (hll : l.length ≤ 1000000) (hs : ∀ s ∈ l, 0 ≤ s.2 ∧ s.2 ≤ 9223372036854775807) => ranew_any W fb fc gn (some ⟨gn, 0, none⟩) p.items.length roots T p.items.length N sv G' l hra hl hll hI TM.out tn h0 hr2 hs)
        have AW := RANY.out wr RA.out (.slice sa p.steps.length sc) p.steps (HP.out.steps.chg KWR.out (fun _ _ e => e)) hL (fun s hs => ⟨(LST.out HOK.out s hs).1, FS.out s hs⟩)
        rw [AL.out p.items.length (Nat.le_refl _) p.steps (fun s hs => (LST.out HOK.out s hs).2)] at AW
        have AW := Lib.hid AW
        have GNR := Lib.hid (show fb < wr.heap.size ∧ gn < wr.heap.size ∧ w.heap.size + 3 ≤ wr.heap.size from ⟨by have := GNZ.out; have := KR.out.size; omega, by have := GNZ.out; have := KR.out.size; omega, by have := GNZ.out; have := KR.out.size; omega⟩)
        have NB := Lib.hid (fun k (hk : k < p.items.length) => show need.getD k false = N k from (NDD.out k).symm)
        have lowr := GNR.out.2.2
        have c1 := cell_of (o := 1) P0R.out rfl
        clear KWX PX FX NR MN KR DE DS D0 UX KCC F2 LST NDD FS
        go_wp2_with fail
        clear c1
        (with_reducible refine (AW.out).mono ?_)
        rintro e w3 ⟨vs, rfl, o3, k3⟩
        obtain ⟨a3, c3, rfl⟩ := own_shape o3
        have kb3 := chg_alloc (fun _ => False) w3 (.cells #[.slice none 0 0, .slice a3 p.steps.length c3] 30)
        have HS3 := Lib.hid (own_chg o3 kb3 (fun _ _ e => e))
        have OBR := Lib.hid (obj_alloc_new w3 (.cells #[.slice none 0 0, .slice a3 p.steps.length c3] 30))
        have KWM := Lib.hid (KWR.out.trans (k3.trans kb3))
        have RAM := Lib.hid (RA.out.chg (k3.trans kb3))
        have P0M := Lib.hid ((k3.trans kb3).obj (fun e => e) P0R.out)
        have P1M := Lib.hid ((k3.trans kb3).obj (fun e => e) P1R.out)
        have HZ := Lib.hid (show fb < w3.heap.size ∧ gn < w3.heap.size ∧ w.heap.size + 3 ≤ w3.heap.size ∧ wr.heap.size ≤ w3.heap.size from ⟨by have := GNR.out; have := k3.size; omega, by have := GNR.out; have := k3.size; omega, by have := GNR.out; have := k3.size; omega, k3.size⟩)
        have KP0 := Lib.hid (show KeptAt (w3.alloc (.cells #[.slice none 0 0, .slice a3 p.steps.length c3] 30)) (w3.alloc (.cells #[.slice none 0 0, .slice a3 p.steps.length c3] 30)) w3.heap.size (.slice none 0 0) (.slice a3 p.steps.length c3) [] (fun _ => False) from
          ⟨OBR.out, ⟨rfl, .inl ⟨rfl, rfl⟩⟩, fun x hx => (by cases hx), fun _ e => e.elim⟩)
        have O3LT := Lib.hid (fun k (hk : (Value.slice a3 p.steps.length c3).ownBlock = some k) => (o3.lt k hk).2)
        have ALEN := Lib.hid (show (anewL roots B GT p.steps).length = p.steps.length from by unfold anewL; rw [List.length_map])
        obtain ⟨KT, hKT⟩ : ∃ KT : Nat → List BItem, KT = keepTo roots B GT need p.items := ⟨_, rfl⟩
        have KT0 := Lib.hid (show KT 0 = [] from by rw [hKT]; rfl)
        have KTN := Lib.hid (fun (k : Nat) (x : BItem) (hx : p.items[k]? = some x) (hn : N k = false) => show KT (k + 1) = KT k from by
          rw [hKT, keepTo_succ]
          unfold keepI
          rw [hx]
          simp only
          rw [NB.out k (List.getElem?_eq_some_iff.1 hx).1, hn]
          simp)
        have KTY := Lib.hid (fun (k : Nat) (x : BItem) (hx : p.items[k]? = some x) (hn : N k = true) => show KT (k + 1) = KT k ++ [⟨x.cert, x.paths.map (anewL roots B GT)⟩] from by
          rw [hKT, keepTo_succ]
          unfold keepI
          rw [hx]
          simp only
          rw [NB.out k (List.getElem?_eq_some_iff.1 hx).1, hn]
          rfl)
        have KTL := Lib.hid (fun k => show (KT k).length ≤ k from by rw [hKT]; exact keepTo_length _ _ _ _ _ _)
        rw [← hKT] at CE
        clear hKT NB
        clear o3 k3 kb3 P0R P1R AW RA KWR GNR GNZ
        go_wp2_with fail
        generalize w3.alloc (.cells #[.slice none 0 0, .slice a3 p.steps.length c3] 30) = wM at *
        generalize w3.heap.size = br at *
        have EE := Lib.hid (fun (W : World) (kW : Chg (fun j => j = br) wM W) =>
          have ne : ∀ {k : Nat}, k < br → ¬ k = br := fun h e => by omega
          And.intro (show RowsAt W fb fc gn (some ⟨gn, 0, none⟩) p.items.length roots T p.items.length N from ⟨fun i hi => cell_chg kW (ne HZ.out.1) (RAM.out.f i hi), fun i hi => ⟨rfl, cell_chg kW (ne HZ.out.2.1) (RAM.out.n i hi).2⟩⟩)
            (And.intro (kW.obj (ne (show w.heap.size < br from by have := HZ.out.2.2.1; omega)) P0M.out) (kW.obj (ne (show w.heap.size + 1 < br from by have := HZ.out.2.2.1; omega)) P1M.out)))
        clear RAM P0M P1M
        go_wp2_with fail
        go_loopw [18] (fun iv wr => ∃ (k : Nat) (ivv : Value) (xs : List (BItem × Value)) (Gx : Nat → Prop), k ≤ p.items.length ∧ iv = .int .i64 k ∧ Hid (KeptAt wM wr br ivv (.slice a3 p.steps.length c3) xs Gx ∧ Chg (fun j => j = br) wM wr ∧ xs.map Prod.fst = KT k)) (fun iv _ => p.items.length - (intOf iv).toNat)
        case atStart => exact ⟨0, _, [], _, by omega, rfl, Lib.hid ⟨KP0.out, Chg.refl _ _, by rw [KT0.out]; rfl⟩⟩
        case round =>
          obtain ⟨k, ivv, xs, Gx, hk, rfl, HI⟩ := hrel
          have KP := Lib.hid HI.out.1
          have KC := Lib.hid HI.out.2.1
          have XM := Lib.hid HI.out.2.2
          have KW := Lib.hid (KWM.out.next KC.out (fun i hi e => by have := HZ.out.2.2.1; omega))
          have O0R := Lib.hid (EE.out wr KC.out).2.1
          have O1R := Lib.hid (EE.out wr KC.out).2.2
          have q0 := cell_of (o := 0) O0R.out rfl
          clear HI KP0
          by_cases hlt : k < p.items.length
          · as_aux_lemma =>
            have g3 : decide ((k : Int) < (p.items.length : Int)) = true := decide_eq_true (by omega)
            have g3' : decide (k < p.items.length) = true := decide_eq_true hlt
            have hkn : (k : Int) < (p.items.length : Int) := by omega
            obtain ⟨x, hx⟩ : ∃ x, p.items[k]? = some x := ⟨_, List.getElem?_eq_getElem hlt⟩
            obtain ⟨bq, hbq⟩ : ∃ bq, bq = N k := ⟨_, rfl⟩
            have nc := ((EE.out wr KC.out).1.n k hlt).2
            rw [← hbq] at nc
            have KTN1 := Lib.hid (fun (q : bq = false) => KTN.out k x hx (by rw [← hbq, q]))
            have KTY1 := Lib.hid (fun (q : bq = true) => KTY.out k x hx (by rw [← hbq, q]))
            obtain ⟨_, _, e1, _, hcl⟩ := HP.out.items
            cases e1
            obtain ⟨lb, lo, pv, rfl, _, j0, j1, hpa⟩ := hcl k _ hx
            have hpl := hpa.len
            obtain ⟨pa, pc, rfl⟩ := hpa.shape
            have HPA := Lib.hid hpa
            have i0 := cell_chg KW.out (fun e => e) j0
            have J1 := Lib.hid j1
            have LSX := Lib.hid (HLS.out x (List.mem_of_getElem? hx))
            have FIX := Lib.hid (fun (l : BSteps) (hl : l ∈ x.paths) => show (∀ s ∈ l, 0 ≤ s.2 ∧ s.2 ≤ 9223372036854775807) ∧ (∀ s ∈ l, s.2 < roots + T k) from ⟨fun s hs => ⟨(STD.out HOK.out k x hx l hl s hs).1, FI.out k x hx l hl s hs⟩, fun s hs => (STD.out HOK.out k x hx l hl s hs).2⟩)
            obtain ⟨cert, paths⟩ := x
            simp only at i0 hpl HPA KTY1 LSX FIX J1
            clear hcl hx hpa j0 j1 hbq KTN KTY
            cases bq with
            | false =>
              have R := Lib.hid (KTN1.out rfl)
              go_wp2
              go_roundw
              case rel => exact ⟨k + 1, _, _, _, by omega, by go_num, Lib.hid ⟨KP.out, KC.out, by rw [R.out]; exact XM.out⟩⟩
              case measure => simp [intOf]; omega
            | true =>
            have R := Lib.hid (KTY1.out rfl)
            have kyb := chg_alloc (fun _ => False) wr (.cells #[.int .i64 cert, .slice none 0 0] 43)
            have PI0 := Lib.hid (show PathIn wr (wr.alloc (.cells #[.int .i64 cert, .slice none 0 0] 43)) wr.heap.size cert (.slice none 0 0) [] (fun _ => False) from
              ⟨obj_alloc_new _ _, ⟨rfl, .inl ⟨rfl, rfl⟩⟩, fun z hz => (by cases hz), fun _ e => e.elim, kyb, Nat.le_refl _⟩)
            have HZX := Lib.hid (show wM.heap.size ≤ wr.heap.size from KC.out.size)
            have RAR := Lib.hid (EE.out wr KC.out).1
            clear kyb KTN1 KTY1
            obtain ⟨wx, hwx⟩ : ∃ wx, wx = wr := ⟨_, rfl⟩
            subst hwx
            go_wp2_with fail
            clear i0 q0 nc
            generalize wx.alloc (.cells #[.int .i64 cert, .slice none 0 0] 43) = wy at *
            go_wp2_with fail
            go_loopw [20] (fun jv wr => ∃ (j : Nat) (pv : Value) (zs : List (BSteps × Value)) (Gz : Nat → Prop), j ≤ paths.length ∧ jv = .int .i64 j ∧ Hid (PathIn wx wr wx.heap.size cert pv zs Gz ∧ zs.map Prod.fst = (paths.take j).map (anewL roots B GT))) (fun jv _ => paths.length - (intOf jv).toNat)
            case atStart => exact ⟨0, _, [], _, by omega, rfl, Lib.hid ⟨PI0.out, rfl⟩⟩
            case round =>
              obtain ⟨j, pv, zs, Gz, hj, rfl, HJ⟩ := hrel
              obtain ⟨za, zc, ezv⟩ := own_shape HJ.out.1.row
              subst ezv
              have PI := Lib.hid HJ.out.1
              have ZM := Lib.hid HJ.out.2
              have hzl : zs.length ≤ 1000 := by
                have := congrArg List.length ZM.out
                rw [List.length_map, List.length_map, List.length_take] at this
                have := LSX.out.1
                omega
              have KWJ := Lib.hid (KW.out.trans PI.out.ch)
              have q0 := cell_of (o := 0) (PI.out.ch.obj (fun e => e) O0R.out) rfl
              have i1 := cell_chg KWJ.out (fun e => e) J1.out
              clear HJ PI0
              by_cases hjl : j < paths.length
              · as_aux_lemma =>
                have g4 : decide ((j : Int) < (paths.length : Int)) = true := decide_eq_true (by omega)
                have g4' : decide (j < paths.length) = true := decide_eq_true hjl
                have hjn : (j : Int) < (paths.length : Int) := by omega
                obtain ⟨l, hl⟩ : ∃ l, paths[j]? = some l := ⟨_, List.getElem?_eq_getElem hjl⟩
                obtain ⟨_, _, e1, _, hcl⟩ := HPA.out
                cases e1
                obtain ⟨lb2, lo2, pv2, rfl, _, s0, hst⟩ := hcl j l hl
                obtain ⟨qa, qc, rfl⟩ := hst.shape
                have S0 := Lib.hid s0
                have HST := Lib.hid hst
                have hlm : l ∈ paths := List.mem_of_getElem? hl
                have AWF := Lib.hid (fun (W : World) (kW : Chg (fun _ => False) wr W) => show Calls Tryz.prog 49 #[.slice qa l.length qc, .slice (some ⟨fb, 0, none⟩) (p.items.length + 1) fc, .slice (some ⟨gn, 0, none⟩) p.items.length (p.items.length)] W (fun e w' => ∃ v, e = .returned v ∧ w'.ownsRow W.heap.size 45 2 v l.length (scells (anewL roots B GT l)) ∧ Chg (fun _ => False) W w') from by
                  have := RANY.out W (RAR.out.chg (PI.out.ch.trans kW)) (.slice qa l.length qc) l (HST.out.chg (KWJ.out.trans kW) (fun _ _ e => e)) (LSX.out.2 l hlm) (FIX.out l hlm).1
                  rw [AL.out k (Nat.le_of_lt hlt) l (FIX.out l hlm).2] at this
                  exact this)
                have ZN := Lib.hid (fun v => show (zs ++ [(anewL roots B GT l, v)]).map Prod.fst = (paths.take (j + 1)).map (anewL roots B GT) from by
                  rw [List.map_append, ZM.out, List.take_add_one, hl, List.map_append]; rfl)
                have AL2 := Lib.hid (show (anewL roots B GT l).length = l.length from by unfold anewL; rw [List.length_map])
                have FACTS := Lib.hid (fun (W : World) (kW : Chg (fun _ => False) wr W) => And.intro (show W.cell? ⟨wx.heap.size, 1, none⟩ = some (.slice za zs.length zc) from cell_of (o := 1) (kW.obj (fun e => e) PI.out.box) rfl) (And.intro (show W.cell? ⟨w.heap.size, 0, none⟩ = some (.slice (some ⟨lb, lo, none⟩) p.items.length ic) from cell_of (o := 0) ((PI.out.ch.trans kW).obj (fun e => e) O0R.out) rfl)
                  (And.intro (show W.cell? ⟨lb, lo + k * 2 + 1, none⟩ = some (.slice (some ⟨lb2, lo2, none⟩) paths.length pc) from cell_chg (KWJ.out.trans kW) (fun e => e) J1.out) (show W.cell? ⟨lb2, lo2 + j, none⟩ = some (.slice qa l.length qc) from cell_chg (KWJ.out.trans kW) (fun e => e) S0.out))))
                have hzx : wx.heap.size ≤ wr.heap.size := PI.out.ch.size
                clear hcl hl hst s0
                go_wp2_with fail
                clear q0 i1
                refine wp_region_planL (N := 223) [.rd [0, 1, 2, 3, 4, 5, 6, 7, 8, 9, 10, 11, 12], .ef 13, .ef 14, .ef 15, .ef 16, .ef 17] 17 (fun W => W.cell? ⟨wx.heap.size, 1, none⟩ = some (.slice za zs.length zc) ∧ W.cell? ⟨w.heap.size, 0, none⟩ = some (.slice (some ⟨lb, lo, none⟩) p.items.length ic) ∧ W.cell? ⟨lb, lo + k * 2 + 1, none⟩ = some (.slice (some ⟨lb2, lo2, none⟩) paths.length pc) ∧ W.cell? ⟨lb2, lo2 + j, none⟩ = some (.slice qa l.length qc)) (by kernel_rfl) (by kernel_rfl) (by kernel_rfl) (by kernel_rfl) (by kernel_rfl) (Nat.le_of_ble_eq_true rfl) (FACTS.out _ (chg_drew _ _)) ?_
                refine planL_rd (A := ?G1) ?o1 ?o2
                case o1 =>
                  rintro w' ⟨z0, z1, z2, z3⟩ K hK
                  simp only [opsAt, List.filterMap_cons, List.filterMap_nil, List.getElem?_toArray, List.getElem?_cons_succ, List.getElem?_cons_zero]
                  repeat still_step
                  refine wpStill_nil ?_
                  exact hK
                have kd := chg_drew (fun _ => False) wr
                have KD := Lib.hid kd
                have PD := Lib.hid (PI.out.chg kd)
                have AWD := Lib.hid (AWF.out _ kd)
                have hzd : wx.heap.size ≤ wr.drew.heap.size := hzx
                clear kd PI AWF
                generalize wr.drew = wd at *
                refine planL_ef rfl ?_
                go_wp2_with fail
                (with_reducible refine (AWD.out).mono ?_)
                rintro e wa ⟨va, rfl, hoa, ka⟩
                obtain ⟨aa, ac, rfl⟩ := own_shape hoa
                have PA := Lib.hid (PD.out.chg ka)
                have KA := Lib.hid (KD.out.trans ka)
                have hza : wx.heap.size ≤ wa.heap.size := PA.out.ch.size
                have HOA := Lib.hid (own_base hoa hzd)
                have fa := FACTS.out _ KA.out
                clear AWD ka hoa PD KD
                go_wp2_with fail
                first | refine ⟨.inr fa, ?_⟩ | refine ⟨fa, ?_⟩
                refine planL_ef rfl ?_
                go_wp2_with fail
                have kb := chg_alloc (fun _ => False) wa (.cells #[.slice aa l.length ac] 28)
                have PB := Lib.hid (PA.out.chg kb)
                have KB := Lib.hid (KA.out.trans kb)
                have HOB := Lib.hid (own_chg HOA.out kb (fun _ _ e => e))
                have obn := obj_alloc_new wa (.cells #[.slice aa l.length ac] 28)
                have hzb : wx.heap.size ≤ (wa.alloc (.cells #[.slice aa l.length ac] 28)).heap.size := PB.out.ch.size
                have fb2 := FACTS.out _ KB.out
                first | refine ⟨.inr fb2, ?_⟩ | refine ⟨fb2, ?_⟩
                clear fa fb2 kb PA HOA
                refine planL_ef rfl ?_
                refine wpList_push rfl (.tmp 200) (.tmp 213) 41 rfl 28 1 24 Tryz.underlying41 Tryz.elemSteps wx.heap.size (.slice za zs.length zc) zs.length (zs.map Prod.snd) rfl PB.out.row wa.heap.size [.slice aa l.length ac] 28 (0, 0) rfl obn rfl (by intro u hu; simp at hu; subst hu; rfl) (by omega) (by unfold maxLen; omega) hzb ?_
                generalize wa.alloc (.cells #[.slice aa l.length ac] 28) = wb at *
                intro v9 w9 o9 g9
                obtain ⟨a9, c9, rfl⟩ := own_shape o9
                have PP := PB.out.push (l := anewL roots B GT l) (v := .slice aa l.length ac) (by rw [AL2.out]; exact HOB.out) g9 o9
                have bx9 := PP.2
                have PN := Lib.hid PP.1
                have y4 := cell_of (o := 1) bx9 rfl
                have f4 := frozen_of (o := 1) bx9
                have K9 := Lib.hid (show Chg (fun _ => False) wx w9 from PB.out.ch.next (Chg.of_grown g9) (fun x hx e => by have := (PB.out.row.lt x e).1; omega))
                have fx0 := cell_of (o := 0) (K9.out.obj (fun e => e) O0R.out) rfl
                have fx1 : w9.cell? ⟨lb, lo + k * 2 + 1, none⟩ = some (.slice (some ⟨lb2, lo2, none⟩) paths.length pc) := cell_chg (KW.out.trans K9.out) (fun e => e) J1.out
                have fx2 : w9.cell? ⟨lb2, lo2 + j, none⟩ = some (.slice qa l.length qc) := cell_chg (KW.out.trans K9.out) (fun e => e) S0.out
                clear PP bx9 o9 g9 PB HOB obn KB KA FACTS
                go_wp2_with fail
                first | refine ⟨.inr ⟨y4, fx0, fx1, fx2⟩, ?_⟩ | refine ⟨⟨y4, fx0, fx1, fx2⟩, ?_⟩
                refine planL_ef rfl ?_
                go_wp2_with fail
                first | refine ⟨.inr ⟨y4, fx0, fx1, fx2⟩, ?_⟩ | refine ⟨⟨y4, fx0, fx1, fx2⟩, ?_⟩
                refine planL_ef rfl ?_
                go_wp2_with fail
                first | refine ⟨.inl rfl, planL_nil ?_⟩ | (unfold PlanQ; refine planL_nil ?_)
                go_wp2
                go_roundw
                case rel => exact ⟨j + 1, _, _, _, by omega, by go_num, Lib.hid ⟨PN.out, ZN.out _⟩⟩
                case measure => simp [intOf]; omega
              · as_aux_lemma =>
                obtain rfl : j = paths.length := by omega
                have g4 : decide ((paths.length : Int) < (paths.length : Int)) = false := decide_eq_false (by omega)
                have g4' : decide (paths.length < paths.length) = false := decide_eq_false (by omega)
                rw [List.take_length] at ZM
                obtain ⟨pd1, pd2⟩ := PI.out.done
                rw [ZM.out] at pd1
                have KPW := Lib.hid (KP.out.chg PI.out.ch)
                obtain ⟨va, vc, eiv⟩ := own_shape KPW.out.row
                subst eiv
                have hxl : xs.length ≤ 1000 := by
                  have := congrArg List.length XM.out
                  rw [List.length_map] at this
                  have := KTL.out k
                  omega
                have ka := chg_alloc (fun _ => False) wr (.cells #[.int .i64 cert, .slice za zs.length zc] 43)
                have HPP := Lib.hid (And.intro (pd1.chg ka (fun _ _ e => e)) (fun k hk => show wM.heap.size ≤ k ∧ ∃ cs t, (wr.alloc (.cells #[.int .i64 cert, .slice za zs.length zc] 43)).heap[k]? = some (.cells cs t (0, 0)) ∧ (t = 28 ∨ t = 45) from by
                  obtain ⟨h1, cs, t, q, ht⟩ := pd2 k hk
                  exact ⟨Nat.le_trans HZX.out h1, cs, t, ka.obj (fun e => e) q, ht⟩))
                have KPA := Lib.hid (KPW.out.chg ka)
                have KCA := Lib.hid (KC.out.trans ((PI.out.ch.trans ka).mono (fun _ _ e => e.elim)))
                have b0 := cell_of (o := 0) KPW.out.box rfl
                have y0 := cell_of (o := 0) PI.out.box rfl
                have y1 := cell_of (o := 1) PI.out.box rfl
                have hwm : wM.heap.size ≤ wr.heap.size := Nat.le_trans HZX.out PI.out.ch.size
                clear pd1 pd2 ka KPW
                go_wp2_with (at_builtin; refine wpList_push rfl (.tmp 217) (.tmp 219) 27 rfl 43 2 32 Tryz.underlying27 Tryz.elemItem wM.heap.size (.slice va xs.length vc) xs.length (icells xs) rfl KPA.out.row _ [.int .i64 cert, .slice za zs.length zc] 43 (0, 0) rfl (obj_alloc_new _ _) rfl ?u1 ?u2 ?u3 ?u4 ?unx)
                case u1 => intro u hu; simp at hu; rcases hu with rfl | rfl <;> rfl
                case u2 => omega
                case u3 => unfold maxLen; omega
                case u4 => first | omega | (rw [World.size_alloc]; omega)
                intro v5 w5 o5 g5
                obtain ⟨a5, c5, rfl⟩ := own_shape o5
                have KPP := KPA.out.push (y := ⟨cert, paths.map (anewL roots B GT)⟩) HPP.out.1 HPP.out.2 g5 o5
                have KPN := Lib.hid KPP.1
                have bx5 := KPP.2.1
                have b5 := cell_of (o := 0) bx5 rfl
                have f5 := frozen_of (o := 0) bx5
                have KCN := Lib.hid (KCA.out.next KPP.2.2 (fun i hi e => by
                  rcases e with e | e
                  · exact e
                  · have := (KPA.out.row.lt i e).1; omega))
                clear KPP bx5 o5 g5 HPP KPA KCA b0 y0 y1
                go_wp2
                go_roundw
                case rel => exact ⟨k + 1, _, _, _, by omega, by go_num, Lib.hid ⟨KPN.out, KCN.out, by rw [R.out, List.map_append, XM.out]; rfl⟩⟩
                case measure => simp [intOf]; omega
          · as_aux_lemma =>
            obtain rfl : k = p.items.length := by omega
            have g3 : decide ((p.items.length : Int) < (p.items.length : Int)) = false := decide_eq_false (by omega)
            have g3' : decide (p.items.length < p.items.length) = false := decide_eq_false (by omega)
            have r0 := cell_of (o := 0) O1R.out rfl
            have r1 := cell_of (o := 1) O1R.out rfl
            have f0 := frozen_of (o := 0) O1R.out
            have f1 := frozen_of (o := 1) O1R.out
            have s0 := cell_of (o := 0) KP.out.box rfl
            have s1 := cell_of (o := 1) KP.out.box rfl
            obtain ⟨va, vc, eiv⟩ := own_shape KP.out.row
            subst eiv
            go_wp2
            obtain ⟨W, hW⟩ : ∃ W, W = (wr.setCell ⟨w.heap.size + 1, 0, none⟩ (.slice va xs.length vc)).setCell ⟨w.heap.size + 1, 1, none⟩ (.slice a3 p.steps.length c3) := ⟨_, rfl⟩
            rw [← hW]
            obtain ⟨ob, kW⟩ := set2 O1R.out _ _ W hW
            clear hW
            have z0 : W.cell? ⟨w.heap.size + 1, 0, none⟩ = some (.slice va xs.length vc) := cell_of ob rfl
            have z1 : W.cell? ⟨w.heap.size + 1, 1, none⟩ = some (.slice a3 p.steps.length c3) := cell_of ob rfl
            refine bodyPost_ret (v := .tuple #[.agg #[.slice va xs.length vc, .slice a3 p.steps.length c3], .int .i64 0]) (by simp [results, Tryz.results20, go_sem, z0, z1]) rfl ?_
            have hwM := KWM.out.size
            have hz := HZ.out.2.2.1
            have kfin : Chg (fun _ => False) w W := KW.out.next kW (fun i hi e => by omega)
            have it := items_own KP.out.row KP.out.ent
            have tyG : ∀ k, (Gx k ∨ (Value.slice va xs.length vc).ownBlock = some k) → wM.heap.size ≤ k ∧ ∃ cs t, wr.heap[k]? = some (.cells cs t (0, 0)) ∧ t ≠ 30 := fun k hk => by
              rcases hk with hk | hk
              · obtain ⟨h1, cs, t, q, ht⟩ := KP.out.typ k hk
                exact ⟨h1, cs, t, q, by rcases ht with rfl | rfl <;> decide⟩
              · obtain ⟨cs, q⟩ := own_cells KP.out.row hk
                exact ⟨(KP.out.row.lt k hk).1, cs, _, q, by decide⟩
            have nott : ∀ k, (Gx k ∨ (Value.slice va xs.length vc).ownBlock = some k) → ¬ (k = w.heap.size + 1) := fun k hk e => by
              obtain ⟨_, cs, t, q, ht⟩ := tyG k hk
              exact ty_ne13 q O1R.out ht e
            have it2 := (it.chg kW nott).up (G' := fun k => w.heap.size ≤ k ∧ k < W.heap.size) (fun k hk => by
              obtain ⟨h1, cs, t, q, _⟩ := tyG k hk
              have h2 := lt_of_obj (kW.obj (nott k hk) q)
              exact ⟨by omega, h2⟩)
            rw [XM.out] at it2
            have hst := own_chg (own_chg HS3.out KC.out (fun k hk e => by have := O3LT.out k hk; omega)) kW (fun k hk e => by have := (HS3.out.lt k hk).1; have := HZ.out; omega)
            refine ⟨kfin, .inl ⟨HOK.out, _, _, rfl, ?_, ?_⟩⟩
            · rw [CE.out]
              exact it2
            · rw [CE.out]
              simp only
              rw [ALEN.out]
              exact own_base hst (by omega)
      | succ k =>
        as_aux_lemma =>
        have e1 : ((k + 1 : Nat) : Int) - 1 = (k : Int) := by omega
        rw [e1]
        clear e1
        have hkl : k < p.items.length := hk
        have hkn : (k : Int) < (p.items.length : Int) := by omega
        have g1 : decide ((0 : Int) ≤ (k : Int)) = true := decide_eq_true (by omega)
        have x1 : IntKind.i64.wrap ((k : Int) + 1) = (k : Int) + 1 := by rw [IntKind.wrap_i64] <;> omega
        have x4 : ((k : Int) + 1).toNat = k + 1 := by omega
        have x5 : 0 ≤ (k : Int) + 1 := by omega
        have x6 : (k : Int) < (p.items.length : Int) + 1 := by omega
        have xm : IntKind.i64.wrap ((k : Int) - 1) = (k : Int) - 1 := by rw [IntKind.wrap_i64] <;> omega
        have RU0 := Lib.hid (fun (W : World) (kW : Chg (fun _ => False) w W) (sv : Value) (l : BSteps) (hl : StepsAt W sv G' l) => ruses_any W sv G' l (roots + (T k : Int)) (roots + (T (k + 1) : Int)) hl)
        have UD := Lib.hid (D0.out k)
        have UXK := Lib.hid (UX.out k)
        have FA := Lib.hid (fun (W : World) (kW : Chg (fun j => j = gn) wC W) => And.intro (FX.out W kW k (by omega)) (FX.out W kW (k + 1) (by omega)))
        obtain ⟨a, ha⟩ : ∃ a : Int, a = roots + (T k : Int) := ⟨_, rfl⟩
        obtain ⟨b, hb⟩ : ∃ b : Int, b = roots + (T (k + 1) : Int) := ⟨_, rfl⟩
        simp only [← ha, ← hb] at RU0 UD UXK FA
        clear ha hb
        have S1 := Lib.hid (fun (W : World) (kW : Chg (fun j => j = gn) wC W) => And.intro (cell_of (o := 1) (PX.out W kW).1 rfl : W.cell? ⟨w.heap.size, 1, none⟩ = some (.slice sa p.steps.length sc)) (FA.out W kW))
        obtain ⟨ub, hub⟩ : ∃ ub, ub = usesB a b p.steps := ⟨_, rfl⟩
        have RU1 := Lib.hid (fun (W : World) (kW : Chg (fun j => j = gn) wC W) => RU0.out W (KWX.out W kW) (.slice sa p.steps.length sc) p.steps (HP.out.steps.chg (KWX.out W kW) (fun _ _ e => e)).at_)
        rw [← hub] at UD RU1
        clear hub
        obtain ⟨bk, hbk⟩ : ∃ bk, M[k]? = some bk := ⟨_, List.getElem?_eq_getElem (by rw [ML.out]; exact hkl)⟩
        have BK := Lib.hid hbk
        clear hbk
        obtain ⟨c1, f0, f1⟩ := S1.out wr KR.out
        go_wp2_with fail
        refine wp_region_plan (N := 223) [.rd [0, 1, 2, 3, 4, 5, 6, 7, 8, 9, 10, 11, 12], .ef 13, .rd [14], .ef 15] (fun W => W.cell? ⟨w.heap.size, 1, none⟩ = some (.slice sa p.steps.length sc) ∧ W.cell? ⟨fb, k, none⟩ = some (.int .i64 a) ∧ W.cell? ⟨fb, k + 1, none⟩ = some (.int .i64 b)) (by kernel_rfl) (by kernel_rfl) (by kernel_rfl) (by kernel_rfl) (Nat.le_of_ble_eq_true rfl) ⟨c1, f0, f1⟩ ?_
        refine plan_rd (A := ?C1) ?k1 ?k2
        case k1 =>
          rintro w' ⟨z0, z1, z2⟩ K hK
          simp only [opsAt, List.filterMap_cons, List.filterMap_nil, List.getElem?_toArray, List.getElem?_cons_succ, List.getElem?_cons_zero]
          refine WS.out ?_
          repeat (refine ws_step (fun K hK => ?_); go_simp; refine hK _ ?_; clear hK K)
          refine ws_nil ?_
          exact hK
        clear c1 f0 f1
        have KD := Lib.hid (KR.out.trans (chg_drew _ wr))
        have ND := Lib.hid (NR.out.chg (chg_drew _ wr))
        have RU2 := Lib.hid (RU1.out _ KD.out)
        clear NR KR RU1
        generalize wr.drew = wd at *
        refine plan_ef rfl ?_
        go_wp2_with fail
        (with_reducible refine (RU2.out).mono ?_)
        rintro e w5 ⟨rfl, k5⟩
        have K5 := Lib.hid (KD.out.trans (k5.mono (fun _ _ e => e.elim)))
        have N5 := Lib.hid (ND.out.chg k5)
        clear k5 RU2 KD ND
        go_wp2_with fail
        refine ⟨S1.out _ K5.out, ?_⟩
        refine plan_rd (A := ?C2) ?k3 ?k4
        case k3 =>
          rintro w' z0 K hK
          clear z0
          simp only [opsAt, List.filterMap_cons, List.filterMap_nil, List.getElem?_toArray, List.getElem?_cons_succ, List.getElem?_cons_zero]
          repeat still_step
          refine wpStill_nil ?_
          exact hK
        refine plan_ef rfl ?_
        have c5 := N5.out.cell BK.out
        have f5 := frozen_of (o := k) N5.out
        go_wp2_with fail
        clear c5 f5
        have K6 := Lib.hid (K5.out.trans (chg_cell w5 gn k (.bool ub)))
        have N6 := Lib.hid (N5.out.set k ub)
        clear K5 N5
        generalize w5.setCell ⟨gn, k, none⟩ (.bool ub) = w6 at *
        refine ⟨S1.out _ K6.out, ?_⟩
        refine plan_nil ?_
        go_wp2
        go_loopw [15] (fun jv wr => ∃ (j : Nat) (M : List Bool), k + 1 ≤ j ∧ j ≤ p.items.length ∧ jv = .int .i64 j ∧ Hid (NRow wr gn M ∧ M.length = p.items.length ∧ M[k]? = some (D k j) ∧ (∀ i, k < i → i < p.items.length → M[i]? = some (N i)) ∧ Chg (fun j => j = gn) wC wr)) (fun jv _ => p.items.length - (intOf jv).toNat)
        case atStart => exact ⟨k + 1, _, Nat.le_refl _, hk, by go_num, Lib.hid ⟨N6.out, by rw [List.length_set]; exact ML.out, by rw [UD.out]; exact List.getElem?_set_self (by rw [ML.out]; exact hkl), fun i h1 h2 => by rw [List.getElem?_set_ne (by omega)]; exact MN.out i (by omega) h2, K6.out⟩⟩
        case round =>
          clear MN ML BK N6 K6 UD
          obtain ⟨j, M, hj1, hj2, rfl, HJ⟩ := hrel
          have NR := Lib.hid HJ.out.1
          have ML := Lib.hid HJ.out.2.1
          have MK := Lib.hid HJ.out.2.2.1
          have MN := Lib.hid HJ.out.2.2.2.1
          have KR := Lib.hid HJ.out.2.2.2.2
          clear HJ
          by_cases hjl : j < p.items.length
          · as_aux_lemma =>
            have g2 : decide ((j : Int) < (p.items.length : Int)) = true := decide_eq_true (by omega)
            have g2' : decide (j < p.items.length) = true := decide_eq_true hjl
            have hjn : (j : Int) < (p.items.length : Int) := by omega
            obtain ⟨x, hx⟩ : ∃ x, p.items[j]? = some x := ⟨_, List.getElem?_eq_getElem hjl⟩
            obtain ⟨_, _, e1, _, hcl⟩ := HP.out.items
            cases e1
            obtain ⟨lb, lo, pv, rfl, _, _, j1, hpa⟩ := hcl j _ hx
            have hpl := hpa.len
            obtain ⟨pa, pc, rfl⟩ := hpa.shape
            have HPA := Lib.hid hpa
            have J1 := Lib.hid j1
            have DSJ := Lib.hid (DS.out k j x hx (by omega))
            obtain ⟨cert, paths⟩ := x
            simp only at hpl HPA J1 DSJ
            obtain ⟨nj, hnj⟩ : ∃ nj, nj = N j := ⟨_, rfl⟩
            have MJ := Lib.hid (fun (M : List Bool) (h : ∀ i, k < i → i < p.items.length → M[i]? = some (N i)) => show M[j]? = some nj from by rw [hnj]; exact h j (by omega) hjl)
            rw [← hnj] at DSJ
            obtain ⟨E, hE⟩ : ∃ E : Nat → Bool, E = fun m => (D k j || (nj && U k (paths.take m))) := ⟨_, rfl⟩
            have E0 := Lib.hid (show E 0 = D k j from by rw [hE]; simp only [List.take_zero]; rw [UXK.out]; simp)
            have ES := Lib.hid (fun m l (hl : paths[m]? = some l) => show E (m + 1) = (E m || (nj && usesB a b l)) from by
              rw [hE]
              simp only
              rw [UXK.out, UXK.out, List.take_add_one, hl, List.any_append]
              cases nj <;> simp [Bool.or_assoc])
            have EN := Lib.hid (show D k (j + 1) = E paths.length from by rw [hE, DSJ.out]; simp only [List.take_length])
            have EF := Lib.hid (fun (q : nj = false) m => show D k (j + 1) = E m from by rw [hE, DSJ.out, q]; simp)
            have q0 := cell_of (o := 0) (PX.out wr KR.out).1 rfl
            clear hcl hx hpa j1 DSJ hE hnj
            go_wp2_with fail
            clear q0
            go_loopw [16] (fun mv wr => ∃ (m : Nat) (M : List Bool), m ≤ paths.length ∧ mv = .int .i64 m ∧ Hid (NRow wr gn M ∧ M.length = p.items.length ∧ M[k]? = some (E m) ∧ (∀ i, k < i → i < p.items.length → M[i]? = some (N i)) ∧ Chg (fun j => j = gn) wC wr)) (fun mv _ => paths.length - (intOf mv).toNat)
            case atStart => exact ⟨0, _, by omega, rfl, Lib.hid ⟨NR.out, ML.out, by rw [E0.out]; exact MK.out, MN.out, KR.out⟩⟩
            case round =>
              clear NR ML MK MN KR E0
              obtain ⟨m, M, hm, rfl, HM⟩ := hrel
              have NR := Lib.hid HM.out.1
              have ML := Lib.hid HM.out.2.1
              have MK := Lib.hid HM.out.2.2.1
              have MN := Lib.hid HM.out.2.2.2.1
              have KR := Lib.hid HM.out.2.2.2.2
              clear HM
              have nc := NR.out.cell (MJ.out M MN.out)
              cases nj with
              | false =>
                as_aux_lemma =>
                have R := Lib.hid (EF.out rfl m)
                go_wp2
                go_roundw
                case rel => exact ⟨j + 1, _, by omega, by omega, by go_num, Lib.hid ⟨NR.out, ML.out, by rw [R.out]; exact MK.out, MN.out, KR.out⟩⟩
                case measure => simp [intOf]; omega
              | true =>
              have q0 := cell_of (o := 0) (PX.out wr KR.out).1 rfl
              have i1 := cell_chg (KWX.out wr KR.out) (fun e => e) J1.out
              by_cases hml : m < paths.length
              rotate_left
              · as_aux_lemma =>
                obtain rfl : m = paths.length := by omega
                have g3 : decide ((paths.length : Int) < (paths.length : Int)) = false := decide_eq_false (by omega)
                have g3' : decide (paths.length < paths.length) = false := decide_eq_false (by omega)
                go_wp2
                go_roundw
                case rel => exact ⟨j + 1, _, by omega, by omega, by go_num, Lib.hid ⟨NR.out, ML.out, by rw [EN.out]; exact MK.out, MN.out, KR.out⟩⟩
                case measure => simp [intOf]; omega
              have g3 : decide ((m : Int) < (paths.length : Int)) = true := decide_eq_true (by omega)
              have g3' : decide (m < paths.length) = true := decide_eq_true hml
              have hmn : (m : Int) < (paths.length : Int) := by omega
              obtain ⟨l, hl⟩ : ∃ l, paths[m]? = some l := ⟨_, List.getElem?_eq_getElem hml⟩
              obtain ⟨_, _, e1, _, hcl⟩ := HPA.out
              cases e1
              obtain ⟨lb2, lo2, pv2, rfl, _, s0, hst⟩ := hcl m l hl
              obtain ⟨qa, qc, rfl⟩ := hst.shape
              have HST := Lib.hid hst
              have S0 := Lib.hid s0
              have ESM := Lib.hid (ES.out m l hl)
              have RU1 := Lib.hid (fun (W : World) (kW : Chg (fun j => j = gn) wC W) => RU0.out W (KWX.out W kW) (.slice qa l.length qc) l (HST.out.chg (KWX.out W kW) (fun _ _ e => e)).at_)
              obtain ⟨um, hum⟩ : ∃ um, um = usesB a b l := ⟨_, rfl⟩
              rw [← hum] at ESM RU1
              have S2 := Lib.hid (fun (W : World) (kW : Chg (fun j => j = gn) wC W) => And.intro (cell_of (o := 0) (PX.out W kW).1 rfl : W.cell? ⟨w.heap.size, 0, none⟩ = some (.slice (some ⟨lb, lo, none⟩) p.items.length ic)) (And.intro (cell_chg (KWX.out W kW) (fun e => e) J1.out) (And.intro (cell_chg (KWX.out W kW) (fun e => e) S0.out) (FA.out W kW))))
              clear hum hcl hl hst s0
              obtain ⟨bk, hbk⟩ : ∃ bk, bk = E m := ⟨_, rfl⟩
              rw [← hbk] at MK ESM
              clear hbk
              go_wp2_with fail
              clear q0 i1 nc
              cases bk with
              | true =>
                as_aux_lemma =>
                obtain ⟨q0, i1, r0, f0, f1⟩ := S2.out wr KR.out
                have kc := NR.out.cell MK.out
                have R := Lib.hid (show E (m + 1) = true from by rw [ESM.out]; rfl)
                refine wp_region_plan (N := 223) [.rd [0, 1, 2, 3, 4, 5, 6, 7, 8, 9, 10, 11, 12, 13, 14, 15, 16, 17, 18, 19, 20, 21, 22, 23, 24], .ef 25, .rd [26, 27], .ef 28] (fun W => W.cell? ⟨gn, k, none⟩ = some (.bool true)) (by kernel_rfl) (by kernel_rfl) (by kernel_rfl) (by kernel_rfl) (Nat.le_of_ble_eq_true rfl) kc ?_
                refine plan_rd (A := ?D1) ?l1 ?l2
                case l1 =>
                  rintro w' z0 K hK
                  simp only [opsAt, List.filterMap_cons, List.filterMap_nil, List.getElem?_toArray, List.getElem?_cons_succ, List.getElem?_cons_zero]
                  refine WS.out ?_
                  repeat (refine ws_step (fun K hK => ?_); go_simp; refine hK _ ?_; clear hK K)
                  refine ws_nil ?_
                  exact hK
                clear q0 i1 r0 f0 f1 kc
                have KD := Lib.hid (KR.out.trans (chg_drew _ wr))
                have ND := Lib.hid (NR.out.chg (chg_drew _ wr))
                clear NR KR RU1
                generalize wr.drew = wd at *
                refine plan_ef rfl ?_
                refine wpList_skip (by simp [Region.wanted, yielded, undef]) ?_
                go_wp2_with fail
                refine ⟨ND.out.cell MK.out, ?_⟩
                refine plan_rd (A := ?D2) ?l3 ?l4
                case l3 =>
                  rintro w' z0 K hK
                  simp only [opsAt, List.filterMap_cons, List.filterMap_nil, List.getElem?_toArray, List.getElem?_cons_succ, List.getElem?_cons_zero]
                  refine WS.out ?_
                  repeat (refine ws_step (fun K hK => ?_); go_simp; refine hK _ ?_; clear hK K)
                  refine ws_nil ?_
                  exact hK
                refine plan_ef rfl ?_
                have c5 := ND.out.cell MK.out
                have f5 := frozen_of (o := k) ND.out
                go_wp2_with fail
                clear c5 f5
                have K6 := Lib.hid (KD.out.trans (chg_cell wd gn k (.bool true)))
                have N6 := Lib.hid (ND.out.set k true)
                clear KD ND
                generalize wd.setCell ⟨gn, k, none⟩ (.bool true) = w6 at *
                have MK6 := Lib.hid (show (M.set k true)[k]? = some true from List.getElem?_set_self (by rw [ML.out]; exact hkl))
                refine ⟨N6.out.cell MK6.out, ?_⟩
                refine plan_nil ?_
                go_wp2
                go_roundw
                case rel => exact ⟨m + 1, _, by omega, by go_num, Lib.hid ⟨N6.out, by rw [List.length_set]; exact ML.out, by rw [R.out]; exact MK6.out, fun i h1 h2 => by rw [List.getElem?_set_ne (by omega)]; exact MN.out i h1 h2, K6.out⟩⟩
                case measure => simp [intOf]; omega
              | false =>
                as_aux_lemma =>
                obtain ⟨q0, i1, r0, f0, f1⟩ := S2.out wr KR.out
                have kc := NR.out.cell MK.out
                have R := Lib.hid (show E (m + 1) = um from by rw [ESM.out]; simp)
                refine wp_region_planL (N := 223) [.rd [0, 1, 2, 3, 4, 5, 6, 7, 8, 9, 10, 11, 12, 13, 14, 15, 16, 17, 18, 19, 20, 21, 22, 23, 24], .ef 25, .ef 26, .ef 27, .ef 28] 28 (fun W => W.cell? ⟨w.heap.size, 0, none⟩ = some (.slice (some ⟨lb, lo, none⟩) p.items.length ic) ∧ W.cell? ⟨lb, lo + j * 2 + 1, none⟩ = some (.slice (some ⟨lb2, lo2, none⟩) paths.length pc) ∧ W.cell? ⟨lb2, lo2 + m, none⟩ = some (.slice qa l.length qc) ∧ W.cell? ⟨fb, k, none⟩ = some (.int .i64 a) ∧ W.cell? ⟨fb, k + 1, none⟩ = some (.int .i64 b) ∧ W.cell? ⟨gn, k, none⟩ = some (.bool false)) (by kernel_rfl) (by kernel_rfl) (by kernel_rfl) (by kernel_rfl) (by kernel_rfl) (Nat.le_of_ble_eq_true rfl) ⟨q0, i1, r0, f0, f1, kc⟩ ?_
                refine planL_rd (A := ?F1) ?m1 ?m2
                case m1 =>
                  rintro w' ⟨z0, z1, z2, z3, z4, z5⟩ K hK
                  simp only [opsAt, List.filterMap_cons, List.filterMap_nil, List.getElem?_toArray, List.getElem?_cons_succ, List.getElem?_cons_zero]
                  refine WS.out ?_
                  repeat (refine ws_step (fun K hK => ?_); go_simp; refine hK _ ?_; clear hK K)
                  refine ws_nil ?_
                  exact hK
                clear q0 i1 r0 f0 f1 kc
                have KD := Lib.hid (KR.out.trans (chg_drew _ wr))
                have ND := Lib.hid (NR.out.chg (chg_drew _ wr))
                have RU2 := Lib.hid (RU1.out _ KD.out)
                clear NR KR RU1
                generalize wr.drew = wd at *
                refine planL_ef rfl ?_
                go_wp2_with fail
                (with_reducible refine (RU2.out).mono ?_)
                rintro e w5 ⟨rfl, k5⟩
                have K5 := Lib.hid (KD.out.trans (k5.mono (fun _ _ e => e.elim)))
                have N5 := Lib.hid (ND.out.chg k5)
                have s5 : w5.cell? ⟨w.heap.size, 0, none⟩ = some (.slice (some ⟨lb, lo, none⟩) p.items.length ic) ∧ w5.cell? ⟨lb, lo + j * 2 + 1, none⟩ = some (.slice (some ⟨lb2, lo2, none⟩) paths.length pc) ∧ w5.cell? ⟨lb2, lo2 + m, none⟩ = some (.slice qa l.length qc) ∧ w5.cell? ⟨fb, k, none⟩ = some (.int .i64 a) ∧ w5.cell? ⟨fb, k + 1, none⟩ = some (.int .i64 b) ∧ w5.cell? ⟨gn, k, none⟩ = some (.bool false) := by
                  obtain ⟨q0, i1, r0, f0, f1⟩ := S2.out w5 K5.out
                  exact ⟨q0, i1, r0, f0, f1, N5.out.cell MK.out⟩
                have S5 := Lib.hid s5
                clear k5 RU2 KD ND s5
                go_wp2_with fail
                first | refine ⟨.inr S5.out, ?_⟩ | refine ⟨S5.out, ?_⟩
                refine planL_ef rfl ?_
                go_wp2_with fail
                first | refine ⟨.inr S5.out, ?_⟩ | refine ⟨S5.out, ?_⟩
                refine planL_ef rfl ?_
                go_wp2_with fail
                first | refine ⟨.inr S5.out, ?_⟩ | refine ⟨S5.out, ?_⟩
                refine planL_ef rfl ?_
                have c5 := N5.out.cell MK.out
                have f5 := frozen_of (o := k) N5.out
                go_wp2_with fail
                clear c5 f5
                have K6 := Lib.hid (K5.out.trans (chg_cell w5 gn k (.bool um)))
                have N6 := Lib.hid (N5.out.set k um)
                first | refine ⟨.inl rfl, planL_nil ?_⟩ | (unfold PlanQ; refine planL_nil ?_)
                clear K5 N5 S5
                generalize w5.setCell ⟨gn, k, none⟩ (.bool um) = w6 at *
                have MK6 := Lib.hid (show (M.set k um)[k]? = some um from List.getElem?_set_self (by rw [ML.out]; exact hkl))
                go_wp2
                go_roundw
                case rel => exact ⟨m + 1, _, by omega, by go_num, Lib.hid ⟨N6.out, by rw [List.length_set]; exact ML.out, by rw [R.out]; exact MK6.out, fun i h1 h2 => by rw [List.getElem?_set_ne (by omega)]; exact MN.out i h1 h2, K6.out⟩⟩
                case measure => simp [intOf]; omega
          · as_aux_lemma =>
            obtain rfl : j = p.items.length := by omega
            have g2 : decide ((p.items.length : Int) < (p.items.length : Int)) = false := decide_eq_false (by omega)
            have R := Lib.hid (DE.out HOK.out k hkl)
            have q0 := cell_of (o := 0) (PX.out wr KR.out).1 rfl
            go_wp2
            go_roundw
            case rel => exact ⟨k, _, by omega, by first | rfl | simp, Lib.hid ⟨NR.out, ML.out, fun i h1 h2 => by
              rcases Nat.eq_or_lt_of_le h1 with h | h
              · rw [← h, ← R.out]; exact MK.out
              · exact MN.out i h h2, KR.out⟩⟩
            case measure => simp [intOf]
end Go.Proofs.YtjifdfhibkipnaaGreat
