/-
  DecideOrder, walked.
-/
import Derived.Test.YthdfplafihmejaaGreatVWhyProof
import Derived.Test.YthdfplafihmejaaGreatVPlain3
namespace Go.Proofs.YthdfplafihmejaaGreat
open Go.RowKit Go.Maps

def pd17 : BCert × Value := (noC, .slice none 0 0)
def turnP (P : List (BCert × Value)) (t k : Nat) : List (BCert × Value) := (List.range k).map fun j => P.getD (turnN P.length t j) pd17
theorem turnP_succ (P : List (BCert × Value)) (t k : Nat) : turnP P t (k + 1) = turnP P t k ++ [P.getD (turnN P.length t k) pd17] := by unfold turnP; rw [List.range_succ, List.map_append]; rfl
theorem turnP_length (P : List (BCert × Value)) (t k : Nat) : (turnP P t k).length = k := by unfold turnP; rw [List.length_map, List.length_range]
theorem getD_certs {P : List (BCert × Value)} {j : Nat} : (P.getD j pd17).1 = (certsOf P).getD j noC := by
 unfold certsOf
 rw [List.getD_eq_getElem?_getD, List.getD_eq_getElem?_getD, List.getElem?_map]
 cases P[j]? <;> rfl
theorem Tryz.sizeCertsS : (Tryz.prog.info? 23).map (·.size) = some 1 := by kernel_rfl
theorem turnP_all (P : List (BCert × Value)) (t : Nat) : certsOf (turnP P t P.length ++ [P.getD (t % P.length) pd17]) = twiceC (certsOf P) t := by
 have h1 : certsOf (turnP P t P.length) = turned (certsOf P) t := by
  unfold turned turnP
  unfold certsOf
  rw [List.map_map, List.length_map]
  refine List.map_congr_left fun j _ => ?_
  exact getD_certs
 unfold twiceC
 rw [← h1]
 unfold certsOf
 rw [List.map_append]
 congr 1
 show [(P.getD (t % P.length) pd17).1] = _
 rw [getD_certs, List.length_map]; rfl
structure OrdIn (w0 W : World) (bz : Nat) (zr zc lv cv : Value) (op b : Int) (ZR : List BRul) (ZP : List (BCert × Value)) : Prop where
 box : W.heap[bz]? = some (.cells #[zr, zc, lv, .int .i64 op, cv, .int .i64 b] 28 (0, 0))
 crt : W.ownsRow w0.heap.size 64 7 zc ZP.length (pcellsL ZP)
 rul : W.ownsRow w0.heap.size 66 2 zr ZR.length (ruleCells ZR)
 ch : Chg (fun _ => False) w0 W
 low : w0.heap.size ≤ bz
section
variable {w0 W W' : World} {bz : Nat} {zr zc lv cv : Value} {op b : Int} {ZR : List BRul} {ZP : List (BCert × Value)}
theorem OrdIn.chg (h : OrdIn w0 W bz zr zc lv cv op b ZR ZP) (k : Chg (fun _ => False) W W') : OrdIn w0 W' bz zr zc lv cv op b ZR ZP :=
 ⟨k.obj (fun e => e) h.box, own_chg h.crt k (fun _ _ e => e), own_chg h.rul k (fun _ _ e => e), h.ch.trans k, h.low⟩
theorem pcellsL_snoc (ZP : List (BCert × Value)) (x : BCert × Value) : pcellsL (ZP ++ [x]) = pcellsL ZP ++ pcells x := by unfold pcellsL; rw [List.flatMap_append]; simp
theorem OrdIn.pushC {x : BCert × Value} {zc' : Value} (h : OrdIn w0 W bz zr zc lv cv op b ZR ZP) (hg : W.grownBy W' zc.ownBlock) (ho : W'.ownsRow w0.heap.size 64 7 zc' (ZP.length + 1) (pcellsL ZP ++ pcells x)) :
  OrdIn w0 (W'.setCell ⟨bz, 1, none⟩ zc') bz zr zc' lv cv op b ZR (ZP ++ [x]) ∧ W'.heap[bz]? = some (.cells #[zr, zc, lv, .int .i64 op, cv, .int .i64 b] 28 (0, 0)) := by
 have kg := Chg.of_grown hg
 have kc := chg_cell W' bz 1 zc'
 have nb : ¬ zc.ownBlock = some bz := fun e => by
  obtain ⟨cs, q⟩ := own_cells h.crt e
  exact ty_ne13 q h.box (by decide) rfl
 have box2 := kg.obj nb h.box
 have nr : ∀ k, zr.ownBlock = some k → ¬ zc.ownBlock = some k ∧ ¬ k = bz := fun k hk => by
  obtain ⟨cs, q⟩ := own_cells h.rul hk
  refine ⟨fun e => ?_, fun e => ?_⟩
  · obtain ⟨ds, q2⟩ := own_cells h.crt e
    exact ty_ne13 q q2 (by decide) rfl
  · exact ty_ne13 q h.box (by decide) e
 refine ⟨⟨obj_setCell (o := 1) box2 zc', ?_, own_chg (own_chg h.rul kg (fun k hk e => (nr k hk).1 e)) kc (fun k hk e => (nr k hk).2 e), (h.ch.next kg (fun k hk e => by have := (h.crt.lt k e).1; omega)).next kc (fun k hk e => by have := h.low; omega), h.low⟩, box2⟩
 rw [pcellsL_snoc, List.length_append]
 exact own_chg ho kc (fun k hk e => by
  obtain ⟨cs, q⟩ := own_cells ho hk
  exact ty_ne13 q box2 (by decide) e)
theorem OrdIn.setR {zr' : Value} {ZR' : List BRul} (h : OrdIn w0 W bz zr zc lv cv op b ZR ZP) (ho : W.ownsRow w0.heap.size 66 2 zr' ZR'.length (ruleCells ZR')) : OrdIn w0 (W.setCell ⟨bz, 0, none⟩ zr') bz zr' zc lv cv op b ZR' ZP := by
 have kc := chg_cell W bz 0 zr'
 refine ⟨obj_setCell (o := 0) h.box zr', own_chg h.crt kc (fun k hk e => ?_), own_chg ho kc (fun k hk e => ?_), h.ch.next kc (fun k hk e => by have := h.low; omega), h.low⟩
 · obtain ⟨cs, q⟩ := own_cells h.crt hk
   exact ty_ne13 q h.box (by decide) e
 · obtain ⟨cs, q⟩ := own_cells ho hk
   exact ty_ne13 q h.box (by decide) e
end
theorem pd17_set (w : World) (G : Nat → Prop) : ∃ sa sc, pd17.2 = .slice sa pd17.1.fr.length sc ∧ CertAt w (.slice sa pd17.1.fr.length sc) G pd17.1 :=
 ⟨none, 0, rfl, ⟨⟨none, 0, rfl, by decide, fun j x hj => by cases hj⟩, fun n c e => by cases e; exact ⟨rfl, rfl⟩⟩, by decide, by decide⟩
theorem certs_sets {w : World} {v : Value} {G : Nat → Prop} {P : List (BCert × Value)} (h : CertsAt w v G P) : Sets7 w G P := fun p hp => by
 obtain ⟨_, _, _, _, q⟩ := h
 obtain ⟨j, hj⟩ := List.mem_iff_getElem?.1 hp
 obtain ⟨_, _, sa, sc, _, _, e, _, _, _, _, _, _, _, hc⟩ := q j p hj
 exact ⟨sa, sc, e, hc⟩
theorem turn_sets {w : World} {G : Nat → Prop} {P : List (BCert × Value)} (h : Sets7 w G P) (t k m : Nat) : Sets7 w G (turnP P t k ++ [P.getD m pd17]) := by
 have key : ∀ m, ∃ sa sc, (P.getD m pd17).2 = .slice sa (P.getD m pd17).1.fr.length sc ∧ CertAt w (.slice sa (P.getD m pd17).1.fr.length sc) G (P.getD m pd17).1 := fun m => by
  rw [List.getD_eq_getElem?_getD]
  cases hm : P[m]? with
  | none => exact pd17_set w G
  | some p => exact h p (List.mem_of_getElem? hm)
 intro p hp
 rcases List.mem_append.1 hp with q | q
 · unfold turnP at q
   obtain ⟨j, _, rfl⟩ := List.mem_map.1 q
   exact key _
 · rw [List.mem_singleton] at q
   subst q
   exact key _
set_option maxHeartbeats 16000000 in
set_option maxRecDepth 100000 in
theorem dorder_law (w : World) (xv : Value) (turn : Int) (ra : Option Addr) (R : List BRul) (rc : Nat) (pv lv cv : Value) (P : List (BCert × Value)) (L : List BEnt) (op : Int) (c : List ByteArray) (b : Int) (hx : AskArg w xv ra R rc pv lv cv P L op c b) (wt : (Lit.int .u8 turn).wf = true) :
  Calls Tryz.prog 7 #[xv, .int .u8 turn] w fun e w' => e = .returned (.bool true) ∧ Chg (fun _ => False) w w' := by
 simp only [Lit.wf, Bool.and_eq_true, decide_eq_true_eq] at wt
 have ht0 : 0 ≤ turn := wt.1
 have ht1 : turn ≤ 255 := wt.2
 clear wt
 obtain ⟨t, rfl⟩ : ∃ t : Nat, turn = (t : Int) := ⟨turn.toNat, by omega⟩
 have ht : t < 256 := by omega
 clear ht0 ht1
 have HX := Lib.hid hx
 obtain rfl := hx.val
 obtain ⟨la, lcap, rfl, _, _⟩ := hx.certs.at_
 obtain ⟨ea, ec, rfl, _, _⟩ := hx.ents.shape
 obtain ⟨ca, cc, rfl, _, _⟩ := hx.set.at_
 have OX := Lib.hid (obj_alloc_new w (.cells #[.slice ra R.length rc, .slice la P.length lcap, .slice ea L.length ec, .int .i64 op, .slice ca c.length cc, .int .i64 b] 28))
 have K2 := Lib.hid (chg_alloc (fun _ => False) w (.cells #[.slice ra R.length rc, .slice la P.length lcap, .slice ea L.length ec, .int .i64 op, .slice ca c.length cc, .int .i64 b] 28))
 have ur := hx.up.rules
 have up := hx.up.certs
 rw [certsOf_length] at up
 clear hx
 go_enter Tryz.func7, Tryz.ntmps7
 go_wp2_with fail
 generalize w.alloc (.cells #[.slice ra R.length rc, .slice la P.length lcap, .slice ea L.length ec, .int .i64 op, .slice ca c.length cc, .int .i64 b] 28) = w2 at *
 obtain ⟨bx, hbx⟩ : ∃ bx, bx = w.heap.size := ⟨_, rfl⟩
 rw [← hbx] at OX
 rw [← hbx]
 clear hbx
 have BX := Lib.hid (fun (W : World) (k : Chg (fun _ => False) w2 W) => cells6 (k.obj (fun e => e) OX.out))
 have AW := Lib.hid (awake17_any w2)
 (with_reducible refine (AW.out).mono ?_)
 rintro e w3 ⟨rfl, k3⟩
 have E3 := Lib.hid k3
 obtain ⟨c0, c1, c2, c3, c4, c5⟩ := BX.out w3 k3
 have LG := Lib.hid (large17_at HX.out (K2.out.trans k3))
 clear k3 AW
 go_wp2_with fail
 clear c0 c1 c2 c3 c4 c5
 (with_reducible refine (LG.out).mono ?_)
 rintro e w4 ⟨lg, rfl, k4, hlg⟩
 have E4 := Lib.hid (E3.out.trans k4)
 clear LG k4 E3
 obtain ⟨c0, c1, c2, c3, c4, c5⟩ := BX.out w4 E4.out
 cases lg with
 | true =>
  as_aux_lemma =>
  go_wp2
  go_ret
  exact ⟨rfl, K2.out.trans E4.out⟩
 | false =>
 have FIT := Lib.hid (hlg rfl)
 clear hlg
 by_cases hp0 : P.length = 0
 · as_aux_lemma =>
   have g0 : ((P.length : Int) == 0) = true := beq_iff_eq.2 (by omega)
   have g0' : decide (P.length = 0) = true := decide_eq_true hp0
   clear hp0
   go_wp2
   go_ret
   exact ⟨rfl, K2.out.trans E4.out⟩
 have g0 : ((P.length : Int) == 0) = false := beq_eq_false_iff_ne.2 (by omega)
 have g0' : decide (P.length = 0) = false := decide_eq_false hp0
 by_cases h12 : 12 < R.length
 · as_aux_lemma =>
   have g1 : decide (12 < (R.length : Int)) = true := decide_eq_true (by omega)
   have g1' : decide (12 < R.length) = true := decide_eq_true h12
   clear hp0 h12
   go_wp2
   go_ret
   exact ⟨rfl, K2.out.trans E4.out⟩
 have g1 : decide (12 < (R.length : Int)) = false := decide_eq_false (by omega)
 have g1' : decide (12 < R.length) = false := decide_eq_false h12
 have hpl : P.length ≤ 8 := by have := FIT.out.certs; rw [certsOf_length] at this; exact this
 have hp1 : 0 < P.length := by omega
 have HR12 := Lib.hid (show R.length ≤ 12 from by omega)
 have OZ := obj_alloc_new w4 (.cells #[.slice ra R.length rc, .slice la P.length lcap, .slice ea L.length ec, .int .i64 op, .slice ca c.length cc, .int .i64 b] 28)
 have d0 := cell_of (o := 0) OZ rfl
 have d1 := cell_of (o := 1) OZ rfl
 have e0 := frozen_of (o := 0) OZ
 have e1 := frozen_of (o := 1) OZ
 have kz := chg_alloc (fun _ => False) w4 (.cells #[.slice ra R.length rc, .slice la P.length lcap, .slice ea L.length ec, .int .i64 op, .slice ca c.length cc, .int .i64 b] 28)
 have x0 := cell_chg kz (fun e => e) c0
 have x1 := cell_chg kz (fun e => e) c1
 have kn := chg_alloc (fun _ => False) w4 (.cells #[.slice none 0 0, .slice none 0 0, .slice ea L.length ec, .int .i64 op, .slice ca c.length cc, .int .i64 b] 28)
 obtain ⟨y0, y1, y2, y3, y4, y5⟩ := BX.out _ (E4.out.trans kn)
 have ORD := Lib.hid (show OrdIn w4 (w4.alloc (.cells #[.slice none 0 0, .slice none 0 0, .slice ea L.length ec, .int .i64 op, .slice ca c.length cc, .int .i64 b] 28)) w4.heap.size (.slice none 0 0) (.slice none 0 0) (.slice ea L.length ec) (.slice ca c.length cc) op b [] (turnP P t 0) from ⟨obj_alloc_new _ _, World.ownsRow_nil _ _ _ _, World.ownsRow_nil _ _ _ _, kn, Nat.le_refl _⟩)
 clear hp0 h12 kz kn
 go_wp2_with fail
 clear y0 y1 y2 y3 y4 y5 d0 d1 e0 e1 x0 x1 OZ c0 c1 c2 c3 c4 c5
 generalize w4.alloc (.cells #[.slice none 0 0, .slice none 0 0, .slice ea L.length ec, .int .i64 op, .slice ca c.length cc, .int .i64 b] 28) = w5 at *
 generalize hbz : w4.heap.size = bz at *
 go_loopw [38] (fun iv wr => ∃ k : Nat, k ≤ P.length ∧ iv = .int .i64 k ∧ Hid (∃ zc, OrdIn w4 wr bz (.slice none 0 0) zc (.slice ea L.length ec) (.slice ca c.length cc) op b [] (turnP P t k))) (fun iv _ => P.length - (intOf iv).toNat)
 case atStart => exact ⟨0, by omega, rfl, Lib.hid ⟨_, ORD.out⟩⟩
 case round =>
 obtain ⟨k, hk, rfl, HI⟩ := hrel
 obtain ⟨zc, hz⟩ := HI.out
 have HZ := Lib.hid hz
 obtain ⟨za, zcap, rfl⟩ := own_shape hz.crt
 clear HI hz ORD
 have BXW := Lib.hid (fun (W : World) (q : Chg (fun _ => False) w4 W) => BX.out W (E4.out.trans q))
 by_cases hlt : k < P.length
 · have hpt := turn_lt (t := t) (i := k) hp1
   obtain ⟨⟨ce, sv⟩, hp⟩ : ∃ p, P[turnN P.length t k]? = some p := ⟨_, List.getElem?_eq_getElem hpt⟩
   obtain ⟨_, _, e1, _, hcl⟩ := HX.out.certs.at_
   cases e1
   obtain ⟨g, o, sa, sc, rfl, hgg, hsv, q0, q1, q2, q3, q4, q5, q6, _⟩ := hcl _ _ hp
   simp only at hsv
   subst hsv
   have NX := Lib.hid (show turnP P t (k + 1) = turnP P t k ++ [(ce, .slice sa ce.fr.length sc)] by rw [turnP_succ, List.getD_eq_getElem?_getD, hp]; rfl)
   have hlen := turnP_length P t k
   have KX := Lib.hid (fun (W : World) (q : Chg (fun _ => False) w4 W) => (K2.out.trans E4.out).trans q)
   have v1 : IntKind.i64.wrap ((P.length : Int) - 1) = (P.length : Int) - 1 := by rw [IntKind.wrap_i64]; omega
   have v2 : IntKind.i64.wrap ((P.length : Int) - 1 - (k : Int)) = (P.length : Int) - 1 - (k : Int) := by rw [IntKind.wrap_i64]; omega
   have v3 : IntKind.i64.wrap (t : Int) = (t : Int) := by rw [IntKind.wrap_i64]; omega
   have v4 : IntKind.i64.wrap ((P.length : Int) - 1 - (k : Int) + (t : Int)) = (P.length : Int) - 1 - (k : Int) + (t : Int) := by rw [IntKind.wrap_i64]; omega
   have hr : Int.tmod ((P.length : Int) - 1 - (k : Int) + (t : Int)) (P.length : Int) = ((turnN P.length t k : Nat) : Int) := by
    unfold turnN
    rw [show (P.length : Int) - 1 - (k : Int) + (t : Int) = ((P.length - 1 - k + t : Nat) : Int) by omega, Int.tmod_eq_emod_of_nonneg (by omega)]
    exact (Int.natCast_emod _ _).symm
   have v5 : IntKind.i64.wrap ((turnN P.length t k : Nat) : Int) = ((turnN P.length t k : Nat) : Int) := by rw [IntKind.wrap_i64]; omega
   generalize turnN P.length t k = m at *
   have hz0 : ¬ P = [] := fun e => by rw [e] at hp1; exact absurd hp1 (Nat.lt_irrefl _)
   have FACT := Lib.hid (fun (W : World) (zc : Value) (hz : W.cell? ⟨bz, 1, none⟩ = some zc) (q : Chg (fun _ => False) w4 W) => And.intro hz (And.intro (show W.cell? ⟨bx, 1, none⟩ = some (.slice (some ⟨g, o, none⟩) P.length lcap) from (BXW.out W q).2.1) (And.intro (cell_chg (KX.out W q) (fun e => e) q0) (And.intro (cell_chg (KX.out W q) (fun e => e) q1) (And.intro (cell_chg (KX.out W q) (fun e => e) q2) (And.intro (cell_chg (KX.out W q) (fun e => e) q3) (And.intro (cell_chg (KX.out W q) (fun e => e) q4) (And.intro (cell_chg (KX.out W q) (fun e => e) q5) (cell_chg (KX.out W q) (fun e => e) q6)))))))))
   obtain ⟨kind, sg, sp, fr, f, ft, num⟩ := ce
   have OZC := Lib.hid (chg_drew (fun _ => False) wr)
   generalize turnP P t k = TP at *
   subst hlen
   simp only at FACT
   have FD := FACT.out wr.drew _ (cell_of (o := 1) (HZ.out.chg OZC.out).box rfl) (HZ.out.chg OZC.out).ch
   clear hcl hp q0 q1 q2 q3 q4 q5 q6 hgg
   go_wp2_with fail
   refine wp_region_planL (N := 120) [.rd [0, 1, 2, 3, 4, 5, 6, 7, 8, 9, 10, 11, 12, 13, 14], .ef 15, .ef 16, .ef 17, .ef 18] 18 (fun w' => w'.cell? ⟨bz, 1, none⟩ = some (.slice za TP.length zcap) ∧ w'.cell? ⟨bx, 1, none⟩ = some (.slice (some ⟨g, o, none⟩) P.length lcap) ∧ w'.cell? ⟨g, o + m * 7, none⟩ = some (.int .i64 kind) ∧ w'.cell? ⟨g, o + m * 7 + 1, none⟩ = some (.int .u16 (sg : Int)) ∧ w'.cell? ⟨g, o + m * 7 + 2, none⟩ = some (.string sp) ∧ w'.cell? ⟨g, o + m * 7 + 3, none⟩ = some (.slice sa fr.length sc) ∧ w'.cell? ⟨g, o + m * 7 + 4, none⟩ = some (.int .i64 f) ∧ w'.cell? ⟨g, o + m * 7 + 5, none⟩ = some (.int .i64 ft) ∧ w'.cell? ⟨g, o + m * 7 + 6, none⟩ = some (.int .i64 num)) (by kernel_rfl) (by kernel_rfl) (by kernel_rfl) (by kernel_rfl) (by kernel_rfl) (Nat.le_of_ble_eq_true rfl) FD ?_
   refine planL_rd (A := ?A1) ?h1 ?h2
   case h1 =>
    rintro w' ⟨z0, z1, z2, z3, z4, z5, z6, z7, z8⟩ K hK
    simp only [opsAt, List.filterMap_cons, List.filterMap_nil, List.getElem?_toArray, List.getElem?_cons_succ, List.getElem?_cons_zero]
    repeat still_step
    refine wpStill_nil ?_
    exact hK
   have HZD := Lib.hid (HZ.out.chg OZC.out)
   clear FD HZ OZC
   generalize wr.drew = wd at *
   have ka := chg_alloc (fun _ => False) wd (.cells #[.int .i64 kind, .int .u16 (sg : Int), .string sp, .slice sa fr.length sc, .int .i64 f, .int .i64 ft, .int .i64 num] 64)
   have HZA := Lib.hid (HZD.out.chg ka)
   have FA := FACT.out _ _ (cell_of (o := 1) HZA.out.box rfl) HZA.out.ch
   have OLIT := obj_alloc_new wd (.cells #[.int .i64 kind, .int .u16 (sg : Int), .string sp, .slice sa fr.length sc, .int .i64 f, .int .i64 ft, .int .i64 num] 64)
   have SRC := Lib.hid (show ∀ (j : Nat) u, (pcells (⟨kind, sg, sp, fr, f, ft, num⟩, .slice sa fr.length sc))[j]? = some u → ∃ g o, (some ⟨wd.heap.size, 0, none⟩ : Option Addr) = some ⟨g, o, none⟩ ∧ (wd.alloc (.cells #[.int .i64 kind, .int .u16 (sg : Int), .string sp, .slice sa fr.length sc, .int .i64 f, .int .i64 ft, .int .i64 num] 64)).cell? ⟨g, o + j, none⟩ = some u from fun j u hj => ⟨_, _, rfl, by rw [Nat.zero_add]; exact cell_of OLIT (by simpa [pcells] using hj)⟩)
   have hwz : w4.heap.size ≤ (wd.alloc (.cells #[.int .i64 kind, .int .u16 (sg : Int), .string sp, .slice sa fr.length sc, .int .i64 f, .int .i64 ft, .int .i64 num] 64)).heap.size := HZA.out.ch.size
   clear ka OLIT
   refine planL_ef rfl ?_
   go_wp2_with fail
   refine ⟨.inr FA, ?_⟩
   refine planL_ef rfl ?_
   refine wpList_pushS rfl (.tmp 42) (.tmp 56) 23 rfl 64 7 80 Tryz.underlying23 Tryz.elemCert w4.heap.size (.slice za TP.length zcap) TP.length (pcellsL TP) rfl HZA.out.crt (some ⟨wd.heap.size, 0, none⟩) 1 1 (pcells (⟨kind, sg, sp, fr, f, ft, num⟩, .slice sa fr.length sc)) rfl rfl SRC.out (fun e => by cases e) (fun u hu => by simp [pcells] at hu; rcases hu with rfl | rfl | rfl | rfl | rfl | rfl | rfl <;> rfl) (by omega) (by unfold maxLen; omega) hwz ?_
   intro v8 w8 o8 g8
   obtain ⟨a8, c8, rfl⟩ := own_shape o8
   obtain ⟨hn, b8⟩ := HZA.out.pushC g8 o8
   rw [← NX.out] at hn
   have HN := Lib.hid hn
   have F8 := FACT.out _ _ (cell_of (o := 1) b8 rfl) (HZA.out.ch.next (Chg.of_grown g8) (fun k hk e => by have := (HZA.out.crt.lt k e).1; omega))
   have e8 := frozen_of (o := 1) b8
   clear hn b8 FA SRC g8 o8 HZA HZD
   go_wp2_with fail
   refine ⟨.inr F8, ?_⟩
   refine planL_ef rfl ?_
   go_wp2_with fail
   refine ⟨.inr F8, ?_⟩
   refine planL_ef rfl ?_
   have f1 := F8.1
   refine wpList_store_one rfl 23 (.tmp 58) (.tmp 57) rfl bz 1 rfl (.slice a8 (TP.length + 1) c8) rfl rfl rfl Tryz.sizeCertsS _ f1 e8 ?_
   intro w9 hw9
   rw [← hw9] at HN
   clear hw9 F8 f1 e8
   refine ⟨.inl rfl, planL_nil ?_⟩
   go_wp2
   go_roundw
   case rel => exact ⟨TP.length + 1, by omega, by go_num, Lib.hid ⟨_, HN.out⟩⟩
   case measure => simp [intOf]; omega
 have ek : k = P.length := by omega
 subst ek
 have hpt : t % P.length < P.length := Nat.mod_lt _ hp1
 obtain ⟨⟨ce, sv⟩, hp⟩ : ∃ p, P[t % P.length]? = some p := ⟨_, List.getElem?_eq_getElem hpt⟩
 obtain ⟨_, _, e1, _, hcl⟩ := HX.out.certs.at_
 cases e1
 obtain ⟨g, o, sa, sc, rfl, hgg, hsv, q0, q1, q2, q3, q4, q5, q6, _⟩ := hcl _ _ hp
 simp only at hsv
 subst hsv
 have NX := Lib.hid (show turnP P t P.length ++ [P.getD (t % P.length) pd17] = turnP P t P.length ++ [(ce, .slice sa ce.fr.length sc)] by rw [List.getD_eq_getElem?_getD, hp]; rfl)
 have ALL := Lib.hid (turnP_all P t)
 have SETS := Lib.hid (fun (W : World) (q : Chg (fun _ => False) w4 W) => turn_sets (certs_sets (HX.out.certs.at_.chg ((K2.out.trans E4.out).trans q) (fun _ _ e => e))) t P.length (t % P.length))
 have hlen := Lib.hid (turnP_length P t P.length)
 have KX := Lib.hid (fun (W : World) (q : Chg (fun _ => False) w4 W) => (K2.out.trans E4.out).trans q)
 have v3 : IntKind.i64.wrap (t : Int) = (t : Int) := by rw [IntKind.wrap_i64]; omega
 have hr : Int.tmod (t : Int) (P.length : Int) = ((t % P.length : Nat) : Int) := by
  rw [Int.tmod_eq_emod_of_nonneg (by omega)]
  exact (Int.natCast_emod _ _).symm
 have v5 : IntKind.i64.wrap ((t % P.length : Nat) : Int) = ((t % P.length : Nat) : Int) := by rw [IntKind.wrap_i64]; omega
 have FINI := Lib.hid (fun h h' h1 h2 => dec_order (R := R) (C := certsOf P) (L := L) (op := op) (c := c) (b := b) (t := t) (by rw [certsOf_length]; exact hp1) h h' h1 h2)
 rw [← ALL.out] at FINI
 clear ALL
 generalize t % P.length = m at *
 have hz0 : ¬ P = [] := fun e => by rw [e] at hp1; exact absurd hp1 (Nat.lt_irrefl _)
 have FACT := Lib.hid (fun (W : World) (zc : Value) (hz : W.cell? ⟨bz, 1, none⟩ = some zc) (q : Chg (fun _ => False) w4 W) => And.intro hz (And.intro (show W.cell? ⟨bx, 1, none⟩ = some (.slice (some ⟨g, o, none⟩) P.length lcap) from (BXW.out W q).2.1) (And.intro (cell_chg (KX.out W q) (fun e => e) q0) (And.intro (cell_chg (KX.out W q) (fun e => e) q1) (And.intro (cell_chg (KX.out W q) (fun e => e) q2) (And.intro (cell_chg (KX.out W q) (fun e => e) q3) (And.intro (cell_chg (KX.out W q) (fun e => e) q4) (And.intro (cell_chg (KX.out W q) (fun e => e) q5) (cell_chg (KX.out W q) (fun e => e) q6)))))))))
 rw [NX.out] at SETS FINI
 obtain ⟨kind, sg, sp, fr, f, ft, num⟩ := ce
 have OZC := Lib.hid (chg_drew (fun _ => False) wr)
 generalize turnP P t P.length = TP at *
 simp only at FACT
 have FD := FACT.out wr.drew _ (cell_of (o := 1) (HZ.out.chg OZC.out).box rfl) (HZ.out.chg OZC.out).ch
 clear hcl hp q0 q1 q2 q3 q4 q5 q6 hgg NX
 go_wp2_with fail
 refine wp_region_planL (N := 120) [.rd [0, 1, 2, 3, 4, 5, 6, 7, 8, 9], .ef 10, .ef 11, .ef 12, .ef 13] 13 (fun w' => w'.cell? ⟨bz, 1, none⟩ = some (.slice za TP.length zcap) ∧ w'.cell? ⟨bx, 1, none⟩ = some (.slice (some ⟨g, o, none⟩) P.length lcap) ∧ w'.cell? ⟨g, o + m * 7, none⟩ = some (.int .i64 kind) ∧ w'.cell? ⟨g, o + m * 7 + 1, none⟩ = some (.int .u16 (sg : Int)) ∧ w'.cell? ⟨g, o + m * 7 + 2, none⟩ = some (.string sp) ∧ w'.cell? ⟨g, o + m * 7 + 3, none⟩ = some (.slice sa fr.length sc) ∧ w'.cell? ⟨g, o + m * 7 + 4, none⟩ = some (.int .i64 f) ∧ w'.cell? ⟨g, o + m * 7 + 5, none⟩ = some (.int .i64 ft) ∧ w'.cell? ⟨g, o + m * 7 + 6, none⟩ = some (.int .i64 num)) (by kernel_rfl) (by kernel_rfl) (by kernel_rfl) (by kernel_rfl) (by kernel_rfl) (Nat.le_of_ble_eq_true rfl) FD ?_
 refine planL_rd (A := ?A2) ?h3 ?h4
 case h3 =>
  rintro w' ⟨z0, z1, z2, z3, z4, z5, z6, z7, z8⟩ K hK
  simp only [opsAt, List.filterMap_cons, List.filterMap_nil, List.getElem?_toArray, List.getElem?_cons_succ, List.getElem?_cons_zero]
  repeat still_step
  refine wpStill_nil ?_
  exact hK
 have HZD := Lib.hid (HZ.out.chg OZC.out)
 clear FD HZ OZC
 generalize wr.drew = wd at *
 have ka := chg_alloc (fun _ => False) wd (.cells #[.int .i64 kind, .int .u16 (sg : Int), .string sp, .slice sa fr.length sc, .int .i64 f, .int .i64 ft, .int .i64 num] 64)
 have HZA := Lib.hid (HZD.out.chg ka)
 have FA := FACT.out _ _ (cell_of (o := 1) HZA.out.box rfl) HZA.out.ch
 have OLIT := obj_alloc_new wd (.cells #[.int .i64 kind, .int .u16 (sg : Int), .string sp, .slice sa fr.length sc, .int .i64 f, .int .i64 ft, .int .i64 num] 64)
 have SRC := Lib.hid (show ∀ (j : Nat) u, (pcells (⟨kind, sg, sp, fr, f, ft, num⟩, .slice sa fr.length sc))[j]? = some u → ∃ g o, (some ⟨wd.heap.size, 0, none⟩ : Option Addr) = some ⟨g, o, none⟩ ∧ (wd.alloc (.cells #[.int .i64 kind, .int .u16 (sg : Int), .string sp, .slice sa fr.length sc, .int .i64 f, .int .i64 ft, .int .i64 num] 64)).cell? ⟨g, o + j, none⟩ = some u from fun j u hj => ⟨_, _, rfl, by rw [Nat.zero_add]; exact cell_of OLIT (by simpa [pcells] using hj)⟩)
 have hwz : w4.heap.size ≤ (wd.alloc (.cells #[.int .i64 kind, .int .u16 (sg : Int), .string sp, .slice sa fr.length sc, .int .i64 f, .int .i64 ft, .int .i64 num] 64)).heap.size := HZA.out.ch.size
 clear ka OLIT
 refine planL_ef rfl ?_
 go_wp2_with fail
 refine ⟨.inr FA, ?_⟩
 refine planL_ef rfl ?_
 refine wpList_pushS rfl (.tmp 61) (.tmp 70) 23 rfl 64 7 80 Tryz.underlying23 Tryz.elemCert w4.heap.size (.slice za TP.length zcap) TP.length (pcellsL TP) rfl HZA.out.crt (some ⟨wd.heap.size, 0, none⟩) 1 1 (pcells (⟨kind, sg, sp, fr, f, ft, num⟩, .slice sa fr.length sc)) rfl rfl SRC.out (fun e => by cases e) (fun u hu => by simp [pcells] at hu; rcases hu with rfl | rfl | rfl | rfl | rfl | rfl | rfl <;> rfl) (by have := hlen.out; omega) (by have := hlen.out; unfold maxLen; omega) hwz ?_
 intro v8 w8 o8 g8
 obtain ⟨a8, c8, rfl⟩ := own_shape o8
 obtain ⟨hn, b8⟩ := HZA.out.pushC g8 o8
 have HN := Lib.hid hn
 have F8 := FACT.out _ _ (cell_of (o := 1) b8 rfl) (HZA.out.ch.next (Chg.of_grown g8) (fun k hk e => by have := (HZA.out.crt.lt k e).1; omega))
 have e8 := frozen_of (o := 1) b8
 clear hn b8 FA SRC g8 o8 HZA HZD
 go_wp2_with fail
 refine ⟨.inr F8, ?_⟩
 refine planL_ef rfl ?_
 go_wp2_with fail
 refine ⟨.inr F8, ?_⟩
 refine planL_ef rfl ?_
 have f1 := F8.1
 refine wpList_store_one rfl 23 (.tmp 72) (.tmp 71) rfl bz 1 rfl (.slice a8 (TP.length + 1) c8) rfl rfl rfl Tryz.sizeCertsS _ f1 e8 ?_
 intro w9 hw9
 rw [← hw9] at HN
 clear hw9 F8 f1 e8 FACT KX
 refine ⟨.inl rfl, planL_nil ?_⟩
 have hpp : (TP ++ [((⟨kind, sg, sp, fr, f, ft, num⟩ : BCert), Value.slice sa fr.length sc)]).length = TP.length + 1 := by rw [List.length_append]; rfl
 rw [← hpp] at HN ⊢
 generalize TP ++ [((⟨kind, sg, sp, fr, f, ft, num⟩ : BCert), Value.slice sa fr.length sc)] = PP at *
 obtain ⟨y0, y1, y2, y3, y4, y5⟩ := BXW.out _ HN.out.ch
 go_wp2_with fail
 clear y0 y1 y2 y3 y4 y5
 have HQ := Lib.hid (show PP.length = P.length + 1 from by rw [hpp, hlen.out])
 clear hpp hlen v3 hr v5 hz0 hpt hk hlt
 go_loopw [76] (fun iv wr => ∃ k : Nat, k ≤ R.length ∧ iv = .int .i64 k ∧ Hid (∃ zr, OrdIn w4 wr bz zr (.slice a8 PP.length c8) (.slice ea L.length ec) (.slice ca c.length cc) op b (R.take k).reverse PP)) (fun iv _ => R.length - (intOf iv).toNat)
 case atStart => exact ⟨0, by omega, rfl, Lib.hid ⟨_, HN.out⟩⟩
 case round =>
 obtain ⟨k, hk, rfl, HI⟩ := hrel
 obtain ⟨zr, hz⟩ := HI.out
 have HZ := Lib.hid hz
 obtain ⟨ab, cb, rfl⟩ := own_shape hz.rul
 clear HI hz HN
 have RSZ := Lib.hid (show ∀ r ∈ R, r.1.size ≤ maxLen ∧ r.2.size ≤ maxLen from fun r hr => by
  obtain ⟨_, _, _, _, q⟩ := HX.out.rules.at_
  obtain ⟨j, hj⟩ := List.mem_iff_getElem?.1 hr
  obtain ⟨_, _, _, _, _, _, q1, q2⟩ := q j r hj
  exact ⟨q1, q2⟩)
 by_cases hlt : k < R.length
 · obtain ⟨⟨rf, rt⟩, hr⟩ : ∃ r, R[k]? = some r := ⟨_, List.getElem?_eq_getElem hlt⟩
   obtain ⟨_, _, e1, _, hcl⟩ := HX.out.rules.at_
   cases e1
   obtain ⟨lb, lo, rfl, _, r0, r1, _, _⟩ := hcl k _ hr
   simp only at r0 r1
   have NX := Lib.hid (show (R.take (k + 1)).reverse = (rf, rt) :: (R.take k).reverse by rw [List.take_add_one, hr]; simp)
   have RVS := Lib.hid (show ∀ r ∈ (R.take k).reverse, r.1.size ≤ maxLen ∧ r.2.size ≤ maxLen from fun r hr => RSZ.out r (List.mem_of_mem_take (List.mem_reverse.1 hr)))
   have hrl : (R.take k).reverse.length ≤ k := by rw [List.length_reverse, List.length_take]; omega
   have KX := Lib.hid (fun (W : World) (q : Chg (fun _ => False) w4 W) => (K2.out.trans E4.out).trans q)
   have FACT := Lib.hid (fun (W : World) (v : Value) (hz : W.cell? ⟨bz, 0, none⟩ = some v) (q : Chg (fun _ => False) w4 W) => And.intro hz (And.intro (show W.cell? ⟨bx, 0, none⟩ = some (.slice (some ⟨lb, lo, none⟩) R.length rc) from (BXW.out W q).1) (And.intro (cell_chg (KX.out W q) (fun e => e) r0) (cell_chg (KX.out W q) (fun e => e) r1))))
   have OZC := Lib.hid (chg_drew (fun _ => False) wr)
   clear hcl hr r0 r1
   generalize (R.take k).reverse = RV at *
   have FD := FACT.out wr.drew _ (cell_of (o := 0) (HZ.out.chg OZC.out).box rfl) (HZ.out.chg OZC.out).ch
   go_wp2_with fail
   refine wp_region_planL (N := 120) [.rd [0, 1, 2, 3, 4, 6, 7], .ef 5, .ef 8, .ef 9, .ef 10] 10 (fun w' => w'.cell? ⟨bz, 0, none⟩ = some (.slice ab RV.length cb) ∧ w'.cell? ⟨bx, 0, none⟩ = some (.slice (some ⟨lb, lo, none⟩) R.length rc) ∧ w'.cell? ⟨lb, lo + k * 2, none⟩ = some (.string rf) ∧ w'.cell? ⟨lb, lo + k * 2 + 1, none⟩ = some (.string rt)) (by kernel_rfl) (by kernel_rfl) (by kernel_rfl) (by kernel_rfl) (by kernel_rfl) (Nat.le_of_ble_eq_true rfl) FD ?_
   refine planL_rd (A := ?A3) ?h5 ?h6
   case h5 =>
    rintro w' ⟨z0, z1, z2, z3⟩ K hK
    simp only [opsAt, List.filterMap_cons, List.filterMap_nil, List.getElem?_toArray, List.getElem?_cons_succ, List.getElem?_cons_zero]
    repeat still_step
    refine wpStill_nil ?_
    exact hK
   have HZD := Lib.hid (HZ.out.chg OZC.out)
   clear FD HZ OZC
   generalize wr.drew = wd at *
   have ka := chg_alloc (fun _ => False) wd (.cells #[.string rf, .string rt] 66)
   have KA := Lib.hid ka
   have HZA := Lib.hid (HZD.out.chg ka)
   have FA := FACT.out _ _ (cell_of (o := 0) HZA.out.box rfl) HZA.out.ch
   have hsz5 : w4.heap.size ≤ wd.heap.size := HZD.out.ch.size
   have OWN := Lib.hid (show (wd.alloc (.cells #[.string rf, .string rt] 66)).ownsRow w4.heap.size 66 2 (.slice (some ⟨wd.heap.size, 0, none⟩) 1 1) 1 [.string rf, .string rt] from own_base (own_lit rfl (by decide)) hsz5)
   have SRC := Lib.hid (rules_src (rulesAt_blk HZA.out.rul RVS.out))
   have NIL := Lib.hid (show ab = none → RV.length = 0 ∧ cb = 0 from fun e => by subst e; exact own_nil HZA.out.rul)
   clear ka
   refine planL_ef rfl ?_
   go_wp2_with fail
   refine ⟨.inr FA, ?_⟩
   refine planL_ef rfl ?_
   refine wpList_pushS rfl (.tmp 84) (.tmp 86) 22 rfl 66 2 32 Tryz.underlying22 Tryz.elemRule w4.heap.size (.slice (some ⟨wd.heap.size, 0, none⟩) 1 1) 1 [.string rf, .string rt] rfl OWN.out ab RV.length cb (ruleCells RV) rfl (ruleCells_length RV) SRC.out NIL.out (ruleCells_one RV) (by omega) (by unfold maxLen; omega) (by rw [World.size_alloc]; omega) ?_
   intro v8 w8 o8 g8
   obtain ⟨a9, c9, rfl⟩ := own_shape o8
   have k8 : Chg (fun _ => False) wd w8 := KA.out.next (Chg.of_grown g8) (fun x hx e => by
    have e2 : wd.heap.size = x := by simpa [Value.ownBlock] using e
    omega)
   have h8 := HZD.out.chg k8
   have O8 : w8.ownsRow w4.heap.size 66 2 (.slice a9 (1 + RV.length) c9) ((rf, rt) :: RV).length (ruleCells ((rf, rt) :: RV)) := by rw [List.length_cons, Nat.add_comm RV.length]; exact o8
   have HN := Lib.hid (h8.setR O8)
   rw [← NX.out] at HN
   have F8 := FACT.out _ _ (cell_of (o := 0) h8.box rfl) h8.ch
   have e8 := frozen_of (o := 0) h8.box
   clear o8 g8 k8 h8 O8 KA OWN SRC NIL HZA HZD FA
   go_wp2_with fail
   refine ⟨.inr F8, ?_⟩
   refine planL_ef rfl ?_
   go_wp2_with fail
   refine ⟨.inr F8, ?_⟩
   refine planL_ef rfl ?_
   have f1 := F8.1
   refine wpList_store_one rfl 22 (.tmp 88) (.tmp 87) rfl bz 0 rfl (.slice a9 (1 + RV.length) c9) rfl rfl rfl Tryz.sizeRulesS _ f1 e8 ?_
   intro w10 hw10
   rw [← hw10] at HN
   clear hw10 F8 f1 e8 FACT KX
   refine ⟨.inl rfl, planL_nil ?_⟩
   go_wp2
   go_roundw
   case rel => exact ⟨k + 1, by omega, by go_num, Lib.hid ⟨_, HN.out⟩⟩
   case measure => simp [intOf]; omega
 have ek : k = R.length := by omega
 subst ek
 rw [List.take_length] at HZ
 have MEM := Lib.hid (show ∀ r, r ∈ R.reverse → r ∈ R from fun r => List.mem_reverse.1)
 have hrr : R.reverse.length = R.length := List.length_reverse
 have HRR := Lib.hid hrr
 generalize R.reverse = RR at *
 clear hrr
 have KW := Lib.hid ((K2.out.trans E4.out).trans HZ.out.ch)
 have A1 := FIT.out.ask HX.out KW.out
 have A2 : AskAt wr ab RR cb (.slice a8 PP.length c8) (.slice ea L.length ec) (.slice ca c.length cc) PP L c (· < wr.heap.size) :=
  ⟨⟨(rulesAt_blk HZ.out.rul (fun r hr => RSZ.out r (MEM.out r hr))).imp (fun j hj => (HZ.out.rul.lt j hj).2), (fun e => by subst e; exact own_nil HZ.out.rul), by have := HRR.out; omega, (fun h4 r hr => A1.run.size (by have := HRR.out; omega) r (MEM.out r hr)),
    (certsAt_own HZ.out.crt (SETS.out wr HZ.out.ch)).up (fun j hj => hj.elim (fun q => Nat.lt_of_lt_of_le q KW.out.size) (fun e => (HZ.out.crt.lt j e).2)), by have := HQ.out; omega, fun _ hj => hj⟩, A1.ents, A1.few, A1.set⟩
 have D1 := Lib.hid (adec_any wr ra R rc _ _ _ P L op c b _ A1)
 have D2 := Lib.hid (fun (W : World) (q : Chg (fun _ => False) wr W) => adec_any W ab RR cb _ _ _ PP L op c b _ (A2.chg q))
 have ZB := Lib.hid (fun (W : World) (q : Chg (fun _ => False) wr W) => cells6 (q.obj (fun e => e) HZ.out.box))
 obtain ⟨y0, y1, y2, y3, y4, y5⟩ := BXW.out _ HZ.out.ch
 clear A1 A2 SETS HZ
 generalize decE R (certsOf P) L op c b = x1 at *
 generalize decE RR (certsOf PP) L op c b = x2 at *
 go_wp2_with fail
 (with_reducible refine (D1.out).mono ?_)
 rintro e w11 ⟨rfl, k11⟩
 have K11 := Lib.hid k11
 have X2 := Lib.hid (D2.out w11 k11)
 clear y0 y1 y2 y3 y4 y5
 obtain ⟨y0, y1, y2, y3, y4, y5⟩ := ZB.out w11 k11
 clear D1 D2 ZB k11
 go_wp2_with fail
 (with_reducible refine (X2.out).mono ?_)
 rintro e w12 ⟨rfl, k12⟩
 have KF := Lib.hid ((KW.out.trans K11.out).trans k12)
 clear X2 k12 y0 y1 y2 y3 y4 y5 K11 KW
 obtain ⟨e1, s1⟩ := x1
 obtain ⟨e2, s2⟩ := x2
 generalize s1.ans = a1 at *
 generalize s2.ans = a2 at *
 simp only at FINI
 by_cases h1 : e1 = e2
 · have g1 : (e1 != e2) = false := bne_eq_false_iff_eq.2 h1
   by_cases h2 : e1 = 0
   · have g2 : (e1 != 0) = false := bne_eq_false_iff_eq.2 h2
     by_cases h3 : a1 = 2
     · have g3 : (a1 == 2) = true := beq_iff_eq.2 h3
       clear FINI h1 h2 h3
       go_wp2
       go_ret
       exact ⟨rfl, KF.out⟩
     · have g3 : (a1 == 2) = false := beq_eq_false_iff_ne.2 h3
       by_cases h4 : a2 = 2
       · have g4 : (a2 == 2) = true := beq_iff_eq.2 h4
         clear FINI h1 h2 h3 h4
         go_wp2
         go_ret
         exact ⟨rfl, KF.out⟩
       · have g4 : (a2 == 2) = false := beq_eq_false_iff_ne.2 h4
         have g5 : a1 = a2 := FINI.out h2 (h1 ▸ h2) h3 h4
         clear FINI h1 h2 h3 h4
         subst g5
         go_wp2
         go_ret
         exact ⟨by simp, KF.out⟩
   · have g2 : (e1 != 0) = true := bne_iff_ne.2 h2
     clear FINI h1 h2
     go_wp2
     go_ret
     exact ⟨rfl, KF.out⟩
 · have g1 : (e1 != e2) = true := bne_iff_ne.2 h1
   clear FINI h1
   go_wp2
   go_ret
   exact ⟨rfl, KF.out⟩
end Go.Proofs.YthdfplafihmejaaGreat
