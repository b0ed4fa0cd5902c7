/-
  Package reach: Path, Walk; what Path tells.
-/
import Derived.Test.YthdfplafihmejaaGreatRHelp
import Derived.Shelf.SlicesQ.Reverse
import Derived.Ground.SlgnProg
namespace Go.Proofs.YthdfplafihmejaaGreat
open Go.RowKit Go.Maps Go.Shelf Go.Lib Go.Sort

shelf_lay_g SlLaysE0.n35 Slgn 35 at Tryz 139 as Tryz.reverseStep
def encStep (x : Nat × Nat) : List Value := [.int .i64 (x.1 : Int), .int .i64 (x.2 : Int)]
theorem own_putRow {w : World} {base : Nat} {e : TypeId} {size n cap g : Nat} {xs : List Value} (h : w.ownsRow base e size (.slice (some ⟨g, 0, none⟩) n cap) n xs) (F : Array Value) (hF : F.size = n * size) (q : Nat) :
  (putRow id (Sort.ahead w q) g 0 F).ownsRow base e size (.slice (some ⟨g, 0, none⟩) n cap) n F.toList ∧ Chg (· = g) w (putRow id (Sort.ahead w q) g 0 F) := by
 obtain ⟨h1, ⟨h2, _⟩ | ⟨g', cap', cur, h2, hb, hg, q1, q2, q3, q4⟩⟩ := h
 ·simp at h2
 ·simp only [Value.slice.injEq, Option.some.injEq, Addr.mk.injEq, and_true, true_and] at h2
  obtain ⟨rfl, rfl⟩ := h2
  refine ⟨⟨by simpa using hF, .inr ⟨g, cap, putCells id 0 F cur, rfl, hb, ?_, q1, q2, by simp [putCells, q3], ?_⟩⟩, ⟨rfl, rfl, rfl, by simp [Sort.ahead], fun k hk hne => ?_⟩⟩
  ·show (w.heap.modify g (onCells (putCells id 0 F)))[g]? = _
   rw [Array.getElem?_modify, if_pos rfl, hg]
   rfl
  ·apply List.ext_getElem?
   intro t
   have hle : n * size ≤ cap * size := Nat.mul_le_mul_right _ q1
   by_cases ht : t < n * size
   ·rw [List.getElem?_take_of_lt ht, Array.getElem?_toList, Array.getElem?_toList]
    unfold putCells
    rw [Array.getElem?_mapIdx, Array.getElem?_eq_getElem (by omega), Array.getElem?_eq_getElem (show t < F.size by omega)]
    simp [show t < F.size by omega]
   ·rw [List.getElem?_eq_none (by rw [List.length_take]; omega), List.getElem?_eq_none (by simp; omega)]
  ·show (w.heap.modify g (onCells (putCells id 0 F)))[k]? = _
   rw [Array.getElem?_modify, if_neg (fun e => hne e.symm)]
theorem flat_hcells (l : List (Nat × Nat)) : (flatK encStep 2 l.toArray).toList = hcells l := by
 apply List.ext_getElem?
 intro t
 have hl := hcells_length l
 by_cases ht : t < 2 * l.length
 ·have hk : t / 2 < l.length := by omega
  have hc := hcells_get l (t / 2) _ (List.getElem?_eq_getElem hk)
  rw [Array.getElem?_toList, Array.getElem?_eq_getElem (by simp; omega)]
  have e1 : (flatK encStep 2 l.toArray)[t]'(by simp; omega) = (encStep l[t / 2])[t % 2]! := by
   simp [flatK, hk]
  rw [e1]
  generalize l[t / 2] = c at *
  rcases Nat.mod_two_eq_zero_or_one t with h | h
  ·rw [h]
   have := hc.1
   rw [show 2 * (t / 2) = t by omega] at this
   rw [this]; rfl
  ·rw [h]
   have := hc.2
   rw [show 2 * (t / 2) + 1 = t by omega] at this
   rw [this]; rfl
 ·rw [List.getElem?_eq_none (by simp; omega), List.getElem?_eq_none (by omega)]
theorem reverse_steps (w : World) (base g cap : Nat) (l : List (Nat × Nat)) (h : w.ownsRow base 153 2 (.slice (some ⟨g, 0, none⟩) l.length cap) l.length (hcells l)) (hl : l.length ≤ 1000000) :
  Calls Tryz.prog 139 #[.slice (some ⟨g, 0, none⟩) l.length cap] w fun e w' => e = .returned (.tuple #[]) ∧ w'.ownsRow base 153 2 (.slice (some ⟨g, 0, none⟩) l.length cap) l.length (hcells l.reverse) ∧ Chg (· = g) w w' := by
 have hH : HoldsK encStep 2 w g 0 l.toArray := by
  intro j hj
  rw [size_flatK] at hj
  simp only [List.size_toArray] at hj
  refine ⟨?_, h.frozenAt _⟩
  rw [Nat.zero_add, h.cellAt j (by omega), ← flat_hcells, Array.getElem?_toList, Array.getElem?_eq_getElem (by simp; omega), getElem!_pos _ _ (by simp; omega)]
  rfl
 have := AnyQ.slices_Reverse Tryz.reverseStep 2 Tryz.isAgg153 Tryz.sizeOf153 encStep (fun _ => rfl) (fun x v hv => by simp [encStep] at hv; rcases hv with rfl | rfl <;> rfl) g 0 cap l.toArray w hH (by simp; omega)
 rw [List.size_toArray] at this
 refine this.mono fun e w' ⟨he, n, hw⟩ => ?_
 subst hw
 obtain ⟨q1, q2⟩ := own_putRow h (flatK encStep 2 l.toArray.reverse) (by simp) n
 refine ⟨he, ?_, q2⟩
 rw [List.reverse_toArray] at q1
 unfold putRowK
 rw [List.reverse_toArray]
 rw [flat_hcells] at q1
 exact q1
theorem reverse_any (w : World) (base : Nat) (v : Value) (l : List (Nat × Nat)) (h : w.ownsRow base 153 2 v l.length (hcells l)) (hl : l.length ≤ 1000000) :
  Calls Tryz.prog 139 #[v] w fun e w' => e = .returned (.tuple #[]) ∧ w'.ownsRow base 153 2 v l.length (hcells l.reverse) ∧ Chg (fun k => v.ownBlock = some k) w w' := by
 rcases Nat.eq_zero_or_pos l.length with h0 | h0
 ·obtain ⟨a, c, rfl⟩ := own_shape h
  rw [h0]
  refine (AnyQ.slices_Reverse_empty Tryz.reverseStep a c w).mono fun e w' ⟨he, hw⟩ => ?_
  subst hw
  obtain rfl : l = [] := List.eq_nil_of_length_eq_zero h0
  exact ⟨he, h, Chg.refl _ _⟩
 ·obtain ⟨a, c, rfl⟩ := own_shape h
  obtain ⟨g, rfl⟩ := own_some h h0
  refine (reverse_steps w base g c l h hl).mono fun e w' ⟨he, ho, hc⟩ => ⟨he, ho, hc.mono (fun k _ e => by rw [e]; rfl)⟩
theorem roCells_get : ∀ (r : List Ent) (k : Nat), k < r.length → (roCells r)[3 * k]? = some (.int .i64 (entAt r k).2.1) ∧ (roCells r)[3 * k + 1]? = some (.int .i64 ((entAt r k).2.2.1 : Int)) ∧ (roCells r)[3 * k + 2]? = some (.int .i64 ((entAt r k).2.2.2 : Int))
 | [], k, h => by simp at h
 | a :: t, 0, h => by unfold roCells; rw [List.flatMap_cons]; exact ⟨rfl, rfl, rfl⟩
 | a :: t, k + 1, h => by
  obtain ⟨h1, h2, h3⟩ := roCells_get t k (by simpa using h)
  have e : roCells (a :: t) = [.int .i64 a.2.1, .int .i64 (a.2.2.1 : Int), .int .i64 (a.2.2.2 : Int)] ++ roCells t := by unfold roCells; rw [List.flatMap_cons]
  have ee : entAt (a :: t) (k + 1) = entAt t k := rfl
  rw [e, ee]
  refine ⟨?_, ?_, ?_⟩
  ·rw [List.getElem?_append_right (by simp; omega)]; simpa [show 3 * (k + 1) - 3 = 3 * k by omega] using h1
  ·rw [List.getElem?_append_right (by simp; omega)]; simpa [show 3 * (k + 1) + 1 - 3 = 3 * k + 1 by omega] using h2
  ·rw [List.getElem?_append_right (by simp; omega)]; simpa [show 3 * (k + 1) + 2 - 3 = 3 * k + 2 by omega] using h3
theorem ro_cell {W : World} {base : Nat} {X : RB} {r : List Ent} (h : RowR W base X r) {i : Nat} (hi : i < r.length) : ∃ g c, X.fv = .slice (some ⟨g, 0, none⟩) r.length c ∧ W.cell? ⟨g, i * 3, none⟩ = some (.int .i64 (entAt r i).2.1) ∧ W.cell? ⟨g, i * 3 + 1, none⟩ = some (.int .i64 ((entAt r i).2.2.1 : Int)) ∧ W.cell? ⟨g, i * 3 + 1 + 1, none⟩ = some (.int .i64 ((entAt r i).2.2.2 : Int)) := by
 have ho := h.hf
 obtain ⟨a, c, e⟩ := own_shape ho
 rw [e] at ho
 obtain ⟨g, rfl⟩ := own_some ho (by omega)
 obtain ⟨q1, q2, q3⟩ := roCells_get r i hi
 refine ⟨g, c, e, ?_, ?_, ?_⟩
 ·rw [ho.cellAt _ (by omega), Nat.mul_comm]; exact q1
 ·rw [ho.cellAt _ (by omega), Nat.mul_comm]; exact q2
 ·rw [ho.cellAt _ (by omega), Nat.mul_comm]; exact q3
section
variable {w : World} {v : Value} {R : List BRul} {s : ByteArray} {b : Int}
set_option maxRecDepth 100000 in
theorem path_err (hA : Asks w v R s) (t : ByteArray) {k : Int} (h : rowErr R s b = k) (hk : k ≠ 0) : Calls Tryz.prog 123 #[v, .string s, .string t, .int .i64 b] w fun e w' => e = .returned (.tuple #[.slice none 0 0, .int .i64 k]) ∧ Chg (fun _ => False) w w' := by
 have W := Lib.hid (walkAll_err hA h hk)
 have g : (k != 0) = true := by rw [bne_iff_ne]; exact hk
 obtain ⟨la, cap, rfl, _, _⟩ := hA.rules
 clear hA h hk
 go_enter Tryz.func123, Tryz.ntmps123
 go_wp2_with fail
 (with_reducible refine (W.out).mono ?_)
 rintro e w' ⟨rfl, kc⟩
 go_wp2
 go_ret2
 exact ⟨rfl, kc⟩
set_option maxRecDepth 100000 in
theorem path_none (hA : Asks w v R s) (t : ByteArray) (ht : t.size ≤ maxLen) (h : rowErr R s b = 0) {r : List Ent} (hr : rowB R s b = some r) (hin : t.data.toList ∉ wordsR r) : Calls Tryz.prog 123 #[v, .string s, .string t, .int .i64 b] w fun e w' => e = .returned (.tuple #[.slice none 0 0, .int .i64 10]) ∧ Chg (fun _ => False) w w' := by
 have W := Lib.hid (walkAll_ok hA h hr)
 have HZI := Lib.hid Tryz.zeroInt
 have KEY := Lib.hid (wkey_of t ht)
 obtain ⟨la, cap, rfl, _, _⟩ := hA.rules
 have LK := Lib.hid (placeF_out hin)
 clear hA h hr hin
 go_enter Tryz.func123, Tryz.ntmps123
 go_wp2_with fail
 (with_reducible refine (W.out).mono ?_)
 rintro e w' ⟨X, rfl, hX, kc⟩
 have c2 : w'.cell? ⟨X.b, 2, none⟩ = some (.map (some X.bm)) := cell_of hX.hb rfl
 have HX := Lib.hid hX
 clear hX
 go_wp2_with (at_lookup; refine wpList_look_int rfl (.tmp 29) (.tmp 30) 210 rfl 57 3 .i64 Tryz.wordKeyed Tryz.underlying210 Tryz.underlying3 (HZI.out _) X.bm r.length _ rfl HX.out.hm _ (.string t.data.toList) rfl KEY.out 0 ?d1 false ?d2 ?dnext)
 case d1 => (rw [LK.out]); try rfl
 case d2 => (rw [LK.out]); try rfl
 go_wp2
 go_ret2
 exact ⟨rfl, kc⟩
set_option maxHeartbeats 1000000 in
set_option maxRecDepth 100000 in
theorem path_ok (hA : Asks w v R s) (t : ByteArray) (ht : t.size ≤ maxLen) (h : rowErr R s b = 0) {r : List Ent} (hr : rowB R s b = some r) (hin : t.data.toList ∈ wordsR r) :
  Calls Tryz.prog 123 #[v, .string s, .string t, .int .i64 b] w fun e w' => ∃ va, e = .returned (.tuple #[va, .int .i64 0]) ∧ w'.ownsRow w.heap.size 153 2 va (pathOf r ((wordsR r).idxOf t.data.toList)).length (hcells (pathOf r ((wordsR r).idxOf t.data.toList))) ∧ Chg (fun _ => False) w w' := by
 have W := Lib.hid (walkAll_ok hA h hr)
 have HZI := Lib.hid Tryz.zeroInt
 have KEY := Lib.hid (wkey_of t ht)
 obtain ⟨h1, _⟩ := rowErr_zero h
 obtain ⟨m1, m2, m3, m4⟩ := askErr_zero h1
 obtain ⟨s1, s2, s3⟩ := row_some (by omega) hr
 obtain ⟨la, cap, rfl, _, _⟩ := hA.rules
 have LK := Lib.hid (placeF_in hin)
 have FR := Lib.hid (row_from hr)
 have hil : (wordsR r).idxOf t.data.toList < r.length := by rw [← wordsR_length]; exact List.idxOf_lt_length_of_mem hin
 generalize (wordsR r).idxOf t.data.toList = i0 at *
 have PW := Lib.hid ((path_walks FR.out i0 hil).2)
 have hrl : r.length ≤ 5000 := by omega
 clear hA h hr hin h1 m1 m2 m3 m4 s1 s2 s3
 go_enter Tryz.func123, Tryz.ntmps123
 go_wp2_with fail
 (with_reducible refine (W.out).mono ?_)
 rintro e w1 ⟨X, rfl, hX, kc⟩
 have c2 : w1.cell? ⟨X.b, 2, none⟩ = some (.map (some X.bm)) := cell_of hX.hb rfl
 have HX := Lib.hid hX
 have KC := Lib.hid kc
 clear hX kc W
 go_wp2_with (at_lookup; refine wpList_look_int rfl (.tmp 29) (.tmp 30) 210 rfl 57 3 .i64 Tryz.wordKeyed Tryz.underlying210 Tryz.underlying3 (HZI.out _) X.bm r.length _ rfl HX.out.hm _ (.string t.data.toList) rfl KEY.out ((i0 : Nat) : Int) ?c1 true ?c2 ?next)
 case c1 => rw [LK.out]; rfl
 case c2 => rw [LK.out]; rfl
 clear c2
 go_wp2
 go_loopw [12, 14] (fun iv lv wr => ∃ (k : Nat) (L : List (Nat × Nat)), k ≤ i0 ∧ iv = .int .i64 k ∧ Hid (pathOf r i0 = pathOf r k ++ L.reverse ∧ L.length ≤ 5000 ∧ wr.ownsRow w1.heap.size 153 2 lv L.length (hcells L) ∧ Chg (fun _ => False) w1 wr)) (fun iv _ _ => (intOf iv).toNat)
 case atStart => exact ⟨i0, [], Nat.le_refl _, rfl, Lib.hid ⟨by simp, by simp, World.ownsRow_nil _ _ _ _, Chg.refl _ _⟩⟩
 case round =>
  obtain ⟨k, L, hk, rfl, HI⟩ := hrel
  have ho := HI.out.2.2.1
  have hLl := HI.out.2.1
  obtain ⟨a14, c14, e14⟩ := own_shape ho
  subst e14
  have HO := Lib.hid ho
  have hc := HI.out.2.2.2
  have hsz := hc.size
  clear ho
  by_cases hk0 : 0 < k
  ·obtain ⟨j, hjk, hj1, hj2⟩ := FR.out.back k hk0 (by omega)
   have PS := Lib.hid (path_succ FR.out (by omega) hk0 hj1 hjk)
   have hXr := RowG.chg HX.out hc (fun _ _ e => e)
   have c1 : wr.cell? ⟨X.b, 1, none⟩ = some X.fv := cell_of hXr.hb rfl
   obtain ⟨gf, cf, ef, f0, f1, f2⟩ := ro_cell hXr (show k < r.length by omega)
   rw [ef] at c1
   rw [hj1] at f0
   generalize (entAt r k).2.2 = st at *
   have x1 := (RowG.own_lt HX.out (.inl rfl)).2
   have x2 := (RowG.own_lt HX.out (.inr (.inr (.inr (show X.fv.ownBlock = some gf by rw [ef]; rfl))))).2
   have GK := Lib.hid (show ∀ W, Chg (fun x => w1.heap.size ≤ x) wr W → W.cell? ⟨X.b, 1, none⟩ = some (.slice (some ⟨gf, 0, none⟩) r.length cf) ∧ W.cell? ⟨gf, k * 3, none⟩ = some (.int .i64 (j : Int)) from fun W h => ⟨cell_chg h (by omega) c1, cell_chg h (by omega) f0⟩)
   have HC := Lib.hid hc
   have g0 : decide (0 < (k : Int)) = true := by rw [decide_eq_true_eq]; omega
   have hkr : k < r.length := by omega
   clear hc hXr ef hj1 hj2
   obtain ⟨st1, st2⟩ := st
   simp only at f1 f2
   go_wp2_with (at_builtin; refine wpList_pushN rfl (.tmp 38) (.tmp 47) 81 rfl 153 2 16 Tryz.underlying81 Tryz.elemStep w1.heap.size _ _ _ rfl (HO.out.alloc _) _ 1 [.int .i64 (st1 : Int), .int .i64 (st2 : Int)] 153 (0, 0) rfl (obj_alloc_new _ _) rfl ?n1 ?n2 ?n3 ?n4 ?next2)
   case n1 => intro u hu; simp at hu; rcases hu with rfl | rfl <;> rfl
   case n2 => omega
   case n3 => unfold maxLen; omega
   case n4 => simp; omega
   intro v2 w2 o2 g2
   have k2 : Chg (fun x => w1.heap.size ≤ x) wr w2 := (chg_alloc (fun x => w1.heap.size ≤ x) wr (.cells #[.int .i64 (st1 : Int), .int .i64 (st2 : Int)] 153)).next (Chg.of_grown g2) (fun x hx e => (HO.out.lt x e).1)
   obtain ⟨d1, d0⟩ := GK.out _ k2
   clear c1 f0 f1 f2
   go_wp2
   go_roundw
   case rel =>
    refine ⟨j, L ++ [(st1, st2)], by omega, rfl, Lib.hid ⟨?_, ?_, ?_, HC.out.next k2 (fun x hx e => by omega)⟩⟩
    ·rw [HI.out.1, PS.out]; simp
    ·have h1 := PW.out
     rw [HI.out.1, PS.out] at h1
     simp at h1 ⊢
     omega
    ·rw [List.length_append, hcells_append]; exact o2
   case measure => simp [intOf]; omega
  ·obtain rfl : k = 0 := by omega
   have PE := Lib.hid (show pathOf r i0 = L.reverse by rw [HI.out.1, path_zero]; rfl)
   have REV := Lib.hid (reverse_any wr w1.heap.size _ L HO.out (by omega))
   have HC := Lib.hid hc
   clear hc
   go_wp2_with fail
   (with_reducible refine (REV.out).mono ?_)
   rintro e w2 ⟨rfl, o2, k2⟩
   go_wp2
   go_ret2
   refine ⟨_, rfl, ?_, ?_⟩
   ·rw [PE.out, List.length_reverse]
    exact ownsRow_down o2 KC.out.size
   ·refine (KC.out.trans HC.out).next k2 (fun x hx e => ?_)
    have := (HO.out.lt x e).1
    have := KC.out.size
    omega
end
end Go.Proofs.YthdfplafihmejaaGreat

namespace Go.Proofs.YthdfplafihmejaaGreat
open Go.RowKit Go.Maps

/-- What Walk hands back. -/
def walkV (o : Option Wd) : Value := match o with
 | none => .tuple #[.string ⟨#[]⟩, .int .i64 10]
 | some u => .tuple #[.string (bar u), .int .i64 0]
theorem walk_form (w : World) (la lv : Option Addr) (n c m d : Nat) (s : ByteArray) (hs : s.size ≤ maxLen) (h : mayB s.data.toList = false) :
  Calls Tryz.prog 105 #[.slice la n c, .string s, .slice lv m d] w fun e w' => e = .returned (.tuple #[.string ⟨#[]⟩, .int .i64 2]) ∧ Chg (fun _ => False) w w' := by
 have MAY := Lib.hid (wmay_any w s hs)
 rw [h] at MAY
 clear h
 go_enter Tryz.func105, Tryz.ntmps105
 go_wp2_with fail
 (with_reducible refine (MAY.out).mono ?_)
 rintro e w' ⟨rfl, kc⟩
 go_wp2
 go_ret2
 exact ⟨rfl, kc⟩
set_option maxHeartbeats 2000000 in
set_option maxRecDepth 100000 in
theorem walk_any (w : World) (v lv : Value) (R : List BRul) (L : List (Int × Int)) (s : ByteArray) (hv : RulesAt w v (· < w.heap.size) R) (hl : StepsAt w lv (· < w.heap.size) L) (hmay : mayB s.data.toList = true) :
  Calls Tryz.prog 105 #[v, .string s, lv] w fun e w' => e = .returned (walkV (walkI (R.map brul) s.data.toList L)) ∧ Chg (fun _ => False) w w' := by
 have HV := Lib.hid hv
 have HL := Lib.hid hl
 obtain ⟨la, cap, rfl, hl0, _⟩ := hv
 obtain ⟨lb, lcap, rfl, hl1, _⟩ := hl
 have hs8 := may_size hmay
 have MAY := Lib.hid (wmay_any w s (by unfold maxLen; omega))
 rw [hmay] at MAY
 have HMAY := Lib.hid hmay
 clear hmay
 unfold maxLen at hl0 hl1
 go_enter Tryz.func105, Tryz.ntmps105
 go_wp2_with fail
 (with_reducible refine (MAY.out).mono ?_)
 rintro e w1 ⟨rfl, k1⟩
 have K1 := Lib.hid k1
 clear k1
 go_wp2
 go_loopw [1, 18] (fun sv iv wr => ∃ (u : ByteArray) (k : Nat), k ≤ L.length ∧ sv = .string u ∧ iv = .int .i64 k ∧ Hid (walkI (R.map brul) s.data.toList (L.take k) = some u.data.toList ∧ mayB u.data.toList = true ∧ Chg (fun _ => False) w wr)) (fun _ iv _ => L.length - (intOf iv).toNat)
 case atStart => exact ⟨s, 0, by omega, rfl, rfl, Lib.hid ⟨rfl, HMAY.out, K1.out⟩⟩
 case round =>
  obtain ⟨u, k, hk, rfl, rfl, HI⟩ := hrel
  have hu8 := may_size HI.out.2.1
  by_cases hlt : k < L.length
  ·obtain ⟨⟨xa, xk⟩, hx⟩ : ∃ x, L[k]? = some x := ⟨_, List.getElem?_eq_getElem hlt⟩
   have hlr := HL.out.chg HI.out.2.2 (fun _ _ e => e)
   have hvr := HV.out.chg HI.out.2.2 (fun _ _ e => e)
   obtain ⟨lb', lcap', e1, _, hcl⟩ := hlr
   cases e1
   obtain ⟨gb, go, rfl, hgb, c0, c1⟩ := hcl k _ hx
   have TK := Lib.hid (show ∀ o, stepI (R.map brul) u.data.toList (xa, xk) = o → walkI (R.map brul) s.data.toList (L.take (k + 1)) = o from fun o ho => by
    rw [List.take_add_one, hx, Option.toList_some, walkI_snoc, HI.out.1]; exact ho)
   have TN := Lib.hid (show stepI (R.map brul) u.data.toList (xa, xk) = none → walkI (R.map brul) s.data.toList L = none from fun ho => by
    have := walkI_none_append (R.map brul) (L.take (k + 1)) (L.drop (k + 1)) s.data.toList (TK.out _ ho)
    rwa [List.take_append_drop] at this)
   have hgs : gb < wr.heap.size := Nat.lt_of_lt_of_le hgb HI.out.2.2.size
   have KR := Lib.hid HI.out.2.2
   simp only at c0 c1
   clear hcl hx
   have b0 : (wr.alloc (.cells #[.int .i64 xa, .int .i64 xk] 153)).heap[wr.heap.size]? = some (.cells #[.int .i64 xa, .int .i64 xk] 153 (0, 0)) := obj_alloc_new _ _
   have K2 := Lib.hid (HI.out.2.2.alloc (.cells #[.int .i64 xa, .int .i64 xk] 153))
   have B0 := Lib.hid b0
   clear b0
   by_cases hx0 : xk < 0
   ·have g0 : decide (xk < 0) = true := by rw [decide_eq_true_eq]; exact hx0
    have RES := Lib.hid (TN.out (stepI_no_rule (fun q => by have := q.1; simp only at this; omega)))
    clear hx0
    go_wp2
    go_ret2
    exact ⟨by rw [RES.out]; rfl, K2.out⟩
   ·have g0 : decide (xk < 0) = false := by rw [decide_eq_false_iff_not]; exact hx0
    obtain ⟨j, rfl⟩ : ∃ j : Nat, xk = j := ⟨xk.toNat, by omega⟩
    by_cases hj : R.length ≤ j
    ·have g1 : decide (R.length ≤ j) = true := by rw [decide_eq_true_eq]; exact hj
     have RES := Lib.hid (TN.out (stepI_no_rule (fun q => by have := q.2.1; simp only [List.length_map] at this; omega)))
     go_wp2
     go_ret2
     exact ⟨by rw [RES.out]; rfl, K2.out⟩
    ·have g1 : decide (R.length ≤ j) = false := by rw [decide_eq_false_iff_not]; exact hj
     have hjl : j < R.length := by omega
     obtain ⟨⟨ra, rb⟩, hr⟩ : ∃ r, R[j]? = some r := ⟨_, List.getElem?_eq_getElem (show j < R.length by omega)⟩
     obtain ⟨la', cap', e1, _, hvl⟩ := hvr
     cases e1
     obtain ⟨ga, gc, rfl, hga, d0, d1, hra, hrb⟩ := hvl j _ hr
     simp only at d0 d1 hra hrb
     have RU := Lib.hid (rule_at hr)
     have US := Lib.hid (fun a => useAt_eq hr u.data.toList a)
     have CNT := Lib.hid (counts_any (wr.alloc (.cells #[.int .i64 xa, .int .i64 (j : Int)] 153)) (ra, rb) hra hrb)
     unfold ruleV at CNT
     simp only at CNT
     have hgaw : ga < wr.heap.size := Nat.lt_of_lt_of_le hga KR.out.size
     clear hvl hr
     cases hc : countsB (brul (ra, rb)) with
     | false =>
      rw [hc] at CNT
      have RES := Lib.hid (TN.out (stepI_no_rule (fun q => by have h := q.2.2; simp only [Int.toNat_natCast] at h; rw [RU.out, hc] at h; cases h)))
      clear hc
      go_wp2_with fail
      (with_reducible refine (CNT.out).mono ?_)
      rintro e w3 ⟨rfl, k3⟩
      go_wp2
      go_ret2
      exact ⟨by rw [RES.out]; rfl, K2.out.trans k3⟩
     | true =>
      rw [hc] at CNT
      obtain ⟨m1, m2, m3⟩ := (counts_iff _).1 hc
      simp only [brul] at m1 m2 m3
      have SA := may_size m1
      have SB := may_size m2
      have PA := may_pos m1
      rw [size_list] at PA
      have NP := Lib.hid (fun h => TN.out (stepI_no_place (w := u.data.toList) (x := (xa, (j : Int))) (by simp only [Int.toNat_natCast]; rw [RU.out]; exact h)))
      have HC := Lib.hid hc
      clear hc m1 m2
      go_wp2_with fail
      (with_reducible refine (CNT.out).mono ?_)
      rintro e w3 ⟨rfl, k3⟩
      have b3 := k3.obj (fun e => e) B0.out
      have d0' : w3.cell? ⟨ga, gc + j * 2, none⟩ = some (.string ra) := cell_chg k3 (fun e => e) (cell_chg (chg_alloc (fun _ => False) wr _) (fun e => e) d0)
      have d1' : w3.cell? ⟨ga, gc + j * 2 + 1, none⟩ = some (.string rb) := cell_chg k3 (fun e => e) (cell_chg (chg_alloc (fun _ => False) wr _) (fun e => e) d1)
      have e0 : w3.cell? ⟨wr.heap.size, 0, none⟩ = some (.int .i64 xa) := cell_of b3 rfl
      have e1 : w3.cell? ⟨wr.heap.size, 1, none⟩ = some (.int .i64 (j : Int)) := cell_of b3 rfl
      have hsz3 : wr.heap.size < w3.heap.size := by have := k3.size; simp at this; omega
      have K3 := Lib.hid (K2.out.trans k3)
      clear d0 d1 b3 k3 CNT c0 c1
      go_wp2_with fail
      have K4 := Lib.hid (K3.out.alloc (.cells #[.string ra, .string rb] 66))
      have b4 := obj_alloc_new w3 (.cells #[.string ra, .string rb] 66)
      have f0 := cell_chg (chg_alloc (fun _ => False) w3 (.cells #[.string ra, .string rb] 66)) (fun e => e) e0
      generalize w3.alloc (.cells #[.string ra, .string rb] 66) = w4 at *
      have p0 : w4.cell? ⟨w3.heap.size, 0, none⟩ = some (.string ra) := cell_of b4 rfl
      have p1 : w4.cell? ⟨w3.heap.size, 1, none⟩ = some (.string rb) := cell_of b4 rfl
      clear d0' d1' e0 e1 b4
      have LEN := Lib.hid (fun n => wlen_any (w4.drewN n) u (by unfold maxLen; omega))
      have LENA := Lib.hid (fun w => wlen_any w ra (by unfold maxLen; omega))
      have hue : u.size = 2 * alen u.data.toList := by unfold alen; rw [size_list]; omega
      have hae : ra.size = 2 * alen ra.data.toList := by unfold alen; rw [size_list]; omega
      by_cases hx1 : xa < 0
      ·have g2 : decide (xa < 0) = true := by rw [decide_eq_true_eq]; exact hx1
       have RES := Lib.hid (NP.out (fun q => by omega))
       clear hx1
       go_quiet (fail)
       rename_i nq
       go_wp2
       go_ret2
       exact ⟨by rw [RES.out]; rfl, K4.out.drewN nq⟩
      ·have g2 : decide (xa < 0) = false := by rw [decide_eq_false_iff_not]; exact hx1
       obtain ⟨i, rfl⟩ : ∃ i : Nat, xa = i := ⟨xa.toNat, by omega⟩
       by_cases hi : alen u.data.toList ≤ i
       ·have g3 : decide (alen u.data.toList ≤ i) = true := by rw [decide_eq_true_eq]; exact hi
        have RES := Lib.hid (NP.out (fun q => by have := q.2.1; simp only [brul] at this; omega))
        generalize alen u.data.toList = N at *
        go_quiet ((go_at_call 80; exact quiet_at LEN.out))
        rename_i nq
        go_wp2
        go_ret2
        exact ⟨by rw [RES.out]; rfl, K4.out.drewN nq⟩
       ·have g3 : decide (alen u.data.toList ≤ i) = false := by rw [decide_eq_false_iff_not]; exact hi
        have FND := Lib.hid (fun n => find_any (w4.drewN n) u ra i (by omega) (by omega) (by omega) (by omega) (by omega))
        have FI := Lib.hid (@findI_iff u.data.toList ra.data.toList i)
        by_cases hf : findI u.data.toList ra.data.toList i = i
        ·rw [hf] at FND
         have g4 : ((i : Int) != (i : Int)) = false := by simp
         obtain ⟨f1, f2⟩ := FI.out.1 hf
         have ST : stepI (R.map brul) u.data.toList ((i : Int), (j : Int)) = some (swapAt u.data.toList i (alen ra.data.toList) rb.data.toList) := by
          unfold stepI
          rw [if_pos]
          ·simp only [Int.toNat_natCast]; rw [US.out]
          ·refine ⟨by simp only; omega, by simp only [List.length_map]; omega, ?_, by simp only; omega, ?_, ?_⟩
           ·simp only [Int.toNat_natCast]; rw [RU.out]; exact HC.out
           ·simp only [Int.toNat_natCast]; rw [RU.out]; simp only [brul]; omega
           ·simp only [Int.toNat_natCast]; rw [RU.out]; exact f2
         have TKO := Lib.hid (TK.out _ ST)
         have SM := Lib.hid (stepI_may HI.out.2.1 ST)
         have SW := Lib.hid (fun w => swap_ok w u rb i (alen ra.data.toList) (by omega) (by omega) (by omega) (by omega) f1 (by
          have : alen u.data.toList ≤ 8 := by omega
          omega))
         clear hf ST f2
         generalize hsw : swapAt u.data.toList i (alen ra.data.toList) rb.data.toList = uw at *
         have HSW := Lib.hid hsw
         clear hsw hi f1 hue hae m3
         generalize alen u.data.toList = N at *
         generalize alen ra.data.toList = M at *
         go_quiet ((first | (go_at_call 80; exact quiet_at LEN.out) | (go_at_call 129; exact quiet_at FND.out)))
         rename_i nq
         go_wp2_with fail
         have K5 := Lib.hid (K4.out.drewN nq)
         have f0' : (w4.drewN nq).cell? ⟨wr.heap.size, 0, none⟩ = some (.int .i64 (i : Int)) := f0
         have p0' : (w4.drewN nq).cell? ⟨w3.heap.size, 0, none⟩ = some (.string ra) := p0
         have p1' : (w4.drewN nq).cell? ⟨w3.heap.size, 1, none⟩ = some (.string rb) := p1
         generalize w4.drewN nq = w5 at *
         clear LEN FND f0 p0 p1
         go_quiet ((first | (go_at_call 80; exact quiet_at (fun n => LENA.out _)) | (go_at_call 130; exact quiet_drawn (fun n => SW.out _))))
         have K6 := Lib.hid (K5.out.drewN nq)
         go_wp2
         go_roundw
         case rel => exact ⟨_, k + 1, by omega, rfl, by go_num, Lib.hid ⟨by rw [TKO.out], SM.out.1, K6.out⟩⟩
         case measure => simp [intOf]; omega
        ·have g4 : (findI u.data.toList ra.data.toList i != (i : Int)) = true := by rw [bne_iff_ne]; exact hf
         have RES := Lib.hid (NP.out (fun q => hf (FI.out.2 ⟨by have := q.2.1; simp only [brul] at this; omega, by have := q.2.2; simpa [brul] using this⟩)))
         clear hf
         generalize findI u.data.toList ra.data.toList i = fi at *
         generalize alen u.data.toList = N at *
         go_quiet ((first | (go_at_call 80; exact quiet_at LEN.out) | (go_at_call 129; exact quiet_at FND.out)))
         rename_i nq
         go_wp2
         go_ret2
         exact ⟨by rw [RES.out]; rfl, K4.out.drewN nq⟩
  ·obtain rfl : k = L.length := by omega
   have RES := Lib.hid (show walkI (R.map brul) s.data.toList L = some u.data.toList by have := HI.out.1; rwa [List.take_length] at this)
   go_wp2
   go_ret2
   exact ⟨by rw [RES.out]; unfold walkV; simp only; rw [bar_of]; rfl, HI.out.2.2⟩
end Go.Proofs.YthdfplafihmejaaGreat

namespace Go.Proofs.YthdfplafihmejaaGreat
open Go.RowKit Go.Maps

def tellPE (R : List BRul) (s t : ByteArray) (b : Int) : Int := if rowErr R s b = 0 then (if t.data.toList ∈ wordsR (rowD R s b) then 0 else 10) else rowErr R s b
def tellP (R : List BRul) (s t : ByteArray) (b : Int) : List (Int × Int) := if tellPE R s t b = 0 then (pathOf (rowD R s b) ((wordsR (rowD R s b)).idxOf t.data.toList)).map fun h => ((h.1 : Int), (h.2 : Int)) else []
def TellPath (w : World) (k : Int) (L : List (Int × Int)) (e : Ending) (w' : World) : Prop := ∃ va, e = .returned (.tuple #[va, .int .i64 k]) ∧ StepsAt w' va (fun x => w.heap.size ≤ x ∧ x < w'.heap.size) L ∧ Chg (fun _ => False) w w'
section
variable {w : World} {v : Value} {R : List BRul} {s : ByteArray} {b : Int}
end
end Go.Proofs.YthdfplafihmejaaGreat
