/-
  The reference of layer 20: Device.
-/
import Derived.Test.YtnmgnhhipgiggaaJRef5
import Derived.Test.YtnmgnhhipgiggaaPlan2
namespace Go.Proofs.Ytnmgnhhipgiggaa
open Go.RowKit

def Apart (v u : Value) : Prop := ∀ x, v.ownBlock = some x → u.ownBlock ≠ some x
theorem Apart.symm {v u : Value} (h : Apart v u) : Apart u v := fun x h1 h2 => h x h2 h1
theorem Apart.grown {w : World} {base : Nat} {e : TypeId} {size n : Nat} {xs : List Value} {v v' u : Value} (h : Apart v u) (hs : SameOrNew w v v') (hu : w.ownsRow base e size u n xs) : Apart v' u := by
  intro x hx hu'
  rcases hs with hs | hs
  · rw [hs] at hx; exact h x hx hu'
  · have := hs x hx; have := (hu.lt x hu').2; omega
theorem own_kept {w w' : World} {base : Nat} {e : TypeId} {size n : Nat} {xs : List Value} {v u : Value} (h : w.ownsRow base e size u n xs) (hg : w.grownBy w' v.ownBlock) (ha : Apart v u) : w'.ownsRow base e size u n xs :=
  own_chg h (Chg.of_grown hg) (fun k hk e => ha k e hk)
theorem Try.elemStr : ElemInfo Try.prog 9 1 16 := elemInfo_of (z := .string ⟨#[]⟩) (by kernel_rfl) rfl (by decide)
theorem Try.elemBool : ElemInfo Try.prog 4 1 1 := elemInfo_of (z := .bool false) (by kernel_rfl) rfl (by decide)
theorem pad_nil : pad [] = zsec := rfl
theorem strs_snoc (k : Nat) : strs (List.replicate k zsec) ++ [.string ⟨zsec.toArray⟩] = strs (List.replicate (k + 1) zsec) := by
  unfold strs; rw [List.replicate_succ', List.map_append]; rfl
theorem bools_snoc (k : Nat) : bools (List.replicate k false) ++ [.bool false] = bools (List.replicate (k + 1) false) := by
  unfold bools; rw [List.replicate_succ', List.map_append]; rfl

theorem rdevice_none (w : World) (n : Int) (h : n < 3 ∨ 65 < n) :
    Calls Try.prog 10 #[.int .i64 n] w fun e w' => e = .returned (.pointer none) ∧ w = w' := by
  by_cases h0 : n < 3
  · clear h
    go_enter Try.func10, Try.ntmps10
    go_wp2
    go_ret
    exact ⟨rfl, rfl⟩
  · have h1 : 65 < n := by omega
    have g0 : decide (n < 3) = false := by rw [decide_eq_false_iff_not]; exact h0
    clear h h0
    go_enter Try.func10, Try.ntmps10
    go_wp2
    go_ret
    exact ⟨rfl, rfl⟩
/-- What the loop of Device has made. -/
structure Making (w : World) (b k0 k1 k2 : Nat) (v0 v1 v2 : Value) : Prop where
  hb : w.heap[b]? = some (.cells #[v0, v1, v2, .int .i64 (-1), .bool false] 48 (0, 0))
  o0 : w.ownsRow (b + 1) 9 1 v0 k0 (strs (List.replicate k0 zsec))
  o1 : w.ownsRow (b + 1) 9 1 v1 k1 (strs (List.replicate k1 zsec))
  o2 : w.ownsRow (b + 1) 4 1 v2 k2 (bools (List.replicate k2 false))
  a1 : Apart v0 v1
  a2 : Apart v0 v2
  a3 : Apart v1 v2
theorem own_above {w : World} {base : Nat} {e : TypeId} {size n : Nat} {xs : List Value} {v : Value} (h : w.ownsRow (base + 1) e size v n xs) : v.ownBlock ≠ some base := fun e => by have := (h.lt base e).1; omega
theorem own_set {w : World} {b o : Nat} {x : Value} {e : TypeId} {size n : Nat} {xs : List Value} {v : Value} (h : w.ownsRow (b + 1) e size v n xs) : (w.setCell ⟨b, o, none⟩ x).ownsRow (b + 1) e size v n xs :=
  own_chg h (chg_cell w b o x) (fun k hk e => own_above h (by rw [← e]; exact hk))
theorem own_shape {w : World} {base : Nat} {e : TypeId} {size n : Nat} {xs : List Value} {v : Value} (h : w.ownsRow base e size v n xs) : ∃ a c, v = .slice a n c := by
  obtain ⟨_, ⟨rfl, rfl⟩ | ⟨g, cap, cur, rfl, _⟩⟩ := h
  · exact ⟨_, _, rfl⟩
  · exact ⟨_, _, rfl⟩
theorem Making.chg {w w' : World} {b k0 k1 k2 : Nat} {v0 v1 v2 : Value} (h : Making w b k0 k1 k2 v0 v1 v2) (hc : Chg (fun _ => False) w w') : Making w' b k0 k1 k2 v0 v1 v2 :=
  ⟨hc.obj (fun e => e) h.hb, own_chg h.o0 hc (fun _ _ e => e), own_chg h.o1 hc (fun _ _ e => e), own_chg h.o2 hc (fun _ _ e => e), h.a1, h.a2, h.a3⟩
theorem Making.step0 {w w' : World} {b k0 k1 k2 : Nat} {v0 v1 v2 v : Value} (h : Making w b k0 k1 k2 v0 v1 v2) (ho : w'.ownsRow (b + 1) 9 1 v (k0 + 1) (strs (List.replicate k0 zsec) ++ [.string ⟨zsec.toArray⟩])) (hg : w.grownBy w' v0.ownBlock) (hs : SameOrNew w v0 v) :
    Making (w'.setCell ⟨b, 0, none⟩ v) b (k0 + 1) k1 k2 v v1 v2 := by
  rw [strs_snoc] at ho
  exact ⟨(obj_setCell ((Chg.of_grown hg).obj (own_above h.o0) h.hb) _).trans rfl, own_set ho, own_set (own_kept h.o1 hg h.a1), own_set (own_kept h.o2 hg h.a2), h.a1.grown hs h.o1, h.a2.grown hs h.o2, h.a3⟩
theorem Making.step1 {w w' : World} {b k0 k1 k2 : Nat} {v0 v1 v2 v : Value} (h : Making w b k0 k1 k2 v0 v1 v2) (ho : w'.ownsRow (b + 1) 9 1 v (k1 + 1) (strs (List.replicate k1 zsec) ++ [.string ⟨zsec.toArray⟩])) (hg : w.grownBy w' v1.ownBlock) (hs : SameOrNew w v1 v) :
    Making (w'.setCell ⟨b, 1, none⟩ v) b k0 (k1 + 1) k2 v0 v v2 := by
  rw [strs_snoc] at ho
  exact ⟨(obj_setCell ((Chg.of_grown hg).obj (own_above h.o1) h.hb) _).trans rfl, own_set (own_kept h.o0 hg h.a1.symm), own_set ho, own_set (own_kept h.o2 hg h.a3), (h.a1.symm.grown hs h.o0).symm, h.a2, h.a3.grown hs h.o2⟩
theorem Making.step2 {w w' : World} {b k0 k1 k2 : Nat} {v0 v1 v2 v : Value} (h : Making w b k0 k1 k2 v0 v1 v2) (ho : w'.ownsRow (b + 1) 4 1 v (k2 + 1) (bools (List.replicate k2 false) ++ [.bool false])) (hg : w.grownBy w' v2.ownBlock) (hs : SameOrNew w v2 v) :
    Making (w'.setCell ⟨b, 2, none⟩ v) b k0 k1 (k2 + 1) v0 v1 v := by
  rw [bools_snoc] at ho
  exact ⟨(obj_setCell ((Chg.of_grown hg).obj (own_above h.o2) h.hb) _).trans rfl, own_set (own_kept h.o0 hg h.a2.symm), own_set (own_kept h.o1 hg h.a3.symm), own_set ho, h.a1, (h.a2.symm.grown hs h.o0).symm, (h.a3.symm.grown hs h.o1).symm⟩
theorem own_grown {S : Nat → Prop} {w0 w w' : World} {base : Nat} {e : TypeId} {size n : Nat} {xs : List Value} {v : Value} (hc : Chg S w0 w) (h : w.ownsRow base e size v n xs) (hb : w0.heap.size ≤ base) (hg : w.grownBy w' v.ownBlock) : Chg S w0 w' :=
  hc.grown hg (fun k hk hl => by have := (h.lt k hk).1; omega)
theorem Try.sizeStrs : (Try.prog.info? 46).map (·.size) = some 1 := by kernel_rfl
theorem Try.sizeBools : (Try.prog.info? 35).map (·.size) = some 1 := by kernel_rfl

set_option maxHeartbeats 2000000 in
theorem rdevice_some (w : World) (n : Nat) (h3 : 3 ≤ n) (h65 : n ≤ 65) :
    Calls Try.prog 10 #[.int .i64 (n : Int)] w fun e w' => ∃ R : RB, e = .returned R.ptr ∧ R.n = n ∧ RDevAt w' R (Dev.new n) ∧ Chg (fun _ => False) w w' ∧ ∀ k, R.S k → w.heap.size ≤ k ∧ k < w'.heap.size := by
  have g0 : decide ((n : Int) < 3) = false := by rw [decide_eq_false_iff_not]; omega
  have g1 : decide (65 < (n : Int)) = false := by rw [decide_eq_false_iff_not]; omega
  have E0 := Lib.hid (show (⟨#[]⟩ : ByteArray).size = 0 from rfl)
  go_enter Try.func10, Try.ntmps10
  go_wp2
  go_loopw [4] (fun i wr => ∃ (k : Nat) (v0 v1 v2 : Value), k ≤ n ∧ i = .int .i64 k ∧ Making wr w.heap.size k k k v0 v1 v2 ∧ Chg (fun _ => False) w wr) (fun i _ => n - (intOf i).toNat)
  case atStart => exact ⟨0, _, _, _, Nat.zero_le _, rfl, ⟨obj_alloc_new _ _, World.ownsRow_nil _ _ _ _, World.ownsRow_nil _ _ _ _, World.ownsRow_nil _ _ _ _, fun x hx => by simp [Value.ownBlock] at hx, fun x hx => by simp [Value.ownBlock] at hx, fun x hx => by simp [Value.ownBlock] at hx⟩, chg_alloc _ _ _⟩
  case round =>
    obtain ⟨k, v0, v1, v2, hk, rfl, hm, hc⟩ := hrel
    have HM := Lib.hid hm
    have HC := Lib.hid hc
    have hbz := lt_of_obj hm.hb
    have hbase : w.heap.size + 1 ≤ wr.heap.size := by omega
    clear hm hc hbz
    by_cases hlt : k < n
    · have c0 : wr.cell? ⟨w.heap.size, 0, none⟩ = some v0 := cell_of HM.out.hb rfl
      go_wp2
      refine wp_region_planL (N := 48) [.rd [0, 1, 2, 3, 4], .ef 5, .ef 6, .ef 7, .ef 8, .ef 9, .ef 10] 10 (fun w' => w'.cell? ⟨w.heap.size, 0, none⟩ = some v0) (by kernel_rfl) (by kernel_rfl) (by kernel_rfl) (by kernel_rfl) (by kernel_rfl) (Nat.le_of_ble_eq_true rfl) c0 ?_
      refine planL_rd (A := ?A0) ?h10 ?h20
      case h10 =>
        intro w' hS K hK
        simp only [opsAt, List.filterMap_cons, List.filterMap_nil, List.getElem?_toArray, List.getElem?_cons_succ, List.getElem?_cons_zero]
        repeat still_step
        refine wpStill_nil ?_
        exact hK
      refine planL_ef rfl ?_
      go_wp2_with fail
      refine (full_any _ ⟨#[]⟩ (by rw [E0.out]; omega)).mono ?_
      rintro e w2 ⟨rfl, k2⟩
      have q2 := (chg_drew (fun _ => False) wr).trans k2
      have m2 := HM.out.chg q2
      have C2 := Lib.hid (HC.out.trans q2)
      have M2 := Lib.hid m2
      have hbase : w.heap.size + 1 ≤ w2.heap.size := by have := q2.size; omega
      have c2 : w2.cell? ⟨w.heap.size, 0, none⟩ = some v0 := cell_of m2.hb rfl
      clear k2 q2 m2 c0 HM HC
      go_wp2_with fail
      refine ⟨.inr c2, ?_⟩
      refine planL_ef rfl ?_
      go_wp2_with fail
      refine ⟨.inr (cell_of (obj_alloc _ M2.out.hb) rfl), ?_⟩
      refine planL_ef rfl ?_
      refine wpList_pushF rfl (.tmp 22) (.tmp 24) 46 rfl 9 1 16 Try.underlying46 Try.elemStr (w.heap.size + 1) _ _ _ rfl (M2.out.o0.alloc _) _ [.string ⟨zsec.toArray⟩] 9 (0, 0) rfl (obj_alloc_new _ _) rfl (by intro u hu; simp at hu; subst hu; rfl) (by omega) (by unfold maxLen; omega) (by simp; omega) ?_
      intro v w3 o3 g3 s3
      have m3 := (M2.out.chg (chg_alloc (fun _ => False) w2 (.cells #[.string ⟨zsec.toArray⟩] 9))).step0 o3 g3 s3
      have k3 := own_grown (C2.out.alloc (.cells #[.string ⟨zsec.toArray⟩] 9)) (M2.out.o0.alloc _) (by omega) g3
      have hb3 := (Chg.of_grown g3).obj (own_above (M2.out.o0.alloc (.cells #[.string ⟨zsec.toArray⟩] 9))) (obj_alloc _ M2.out.hb)
      have f3 : w3.frozen? ⟨w.heap.size, 0, none⟩ = false := frozen_of hb3
      have c3 : w3.cell? ⟨w.heap.size, 0, none⟩ = some v0 := cell_of hb3 rfl
      obtain ⟨sa0, sc0, rfl⟩ := own_shape o3
      have M0 := Lib.hid m3
      have C0 := Lib.hid (k3.setCell (S := fun _ => False) (p := ⟨w.heap.size, 0, none⟩) (fun e => absurd e (Nat.lt_irrefl _)) (.slice sa0 (k + 1) sc0))
      have hz3 : w.heap.size + 1 ≤ (w3.setCell ⟨w.heap.size, 0, none⟩ (.slice sa0 (k + 1) sc0)).heap.size := by have := lt_of_obj m3.hb; omega
      clear o3 g3 s3 m3 k3 hb3 c2 M2 C2 hbase
      go_wp2_with fail
      refine ⟨.inr c3, ?_⟩
      refine planL_ef rfl ?_
      go_wp2_with fail
      refine ⟨.inr c3, ?_⟩
      refine planL_ef rfl ?_
      go_wp2_with fail
      refine ⟨.inr c3, ?_⟩
      refine planL_ef rfl ?_
      refine wpList_store_one rfl 46 (.tmp 27) (.tmp 25) rfl w.heap.size 0 rfl (.slice sa0 (k + 1) sc0) rfl rfl rfl Try.sizeStrs _ c3 f3 ?_
      intro w4 hw4
      rw [← hw4] at M0 C0 hz3
      clear hw4 c3 f3
      refine ⟨.inl rfl, planL_nil ?_⟩
      have c1 : w4.cell? ⟨w.heap.size, 1, none⟩ = some v1 := cell_of M0.out.hb rfl
      go_wp2
      refine wp_region_planL (N := 48) [.rd [0, 1, 2, 3, 4], .ef 5, .ef 6, .ef 7, .ef 8, .ef 9, .ef 10] 10 (fun w' => w'.cell? ⟨w.heap.size, 1, none⟩ = some v1) (by kernel_rfl) (by kernel_rfl) (by kernel_rfl) (by kernel_rfl) (by kernel_rfl) (Nat.le_of_ble_eq_true rfl) c1 ?_
      refine planL_rd (A := ?A1) ?h11 ?h21
      case h11 =>
        intro w' hS K hK
        simp only [opsAt, List.filterMap_cons, List.filterMap_nil, List.getElem?_toArray, List.getElem?_cons_succ, List.getElem?_cons_zero]
        repeat still_step
        refine wpStill_nil ?_
        exact hK
      refine planL_ef rfl ?_
      go_wp2_with fail
      refine (full_any _ ⟨#[]⟩ (by rw [E0.out]; omega)).mono ?_
      rintro e w5 ⟨rfl, k2⟩
      have q2 := (chg_drew (fun _ => False) w4).trans k2
      have m2 := M0.out.chg q2
      have C2 := Lib.hid (C0.out.trans q2)
      have M2 := Lib.hid m2
      have hbase : w.heap.size + 1 ≤ w5.heap.size := by have := q2.size; omega
      have c2 : w5.cell? ⟨w.heap.size, 1, none⟩ = some v1 := cell_of m2.hb rfl
      clear k2 q2 m2 c1 M0 C0
      go_wp2_with fail
      refine ⟨.inr c2, ?_⟩
      refine planL_ef rfl ?_
      go_wp2_with fail
      refine ⟨.inr (cell_of (obj_alloc _ M2.out.hb) rfl), ?_⟩
      refine planL_ef rfl ?_
      refine wpList_pushF rfl (.tmp 32) (.tmp 34) 46 rfl 9 1 16 Try.underlying46 Try.elemStr (w.heap.size + 1) _ _ _ rfl (M2.out.o1.alloc _) _ [.string ⟨zsec.toArray⟩] 9 (0, 0) rfl (obj_alloc_new _ _) rfl (by intro u hu; simp at hu; subst hu; rfl) (by omega) (by unfold maxLen; omega) (by simp; omega) ?_
      intro v w3 o3 g3 s3
      have m3 := (M2.out.chg (chg_alloc (fun _ => False) w5 (.cells #[.string ⟨zsec.toArray⟩] 9))).step1 o3 g3 s3
      have k3 := own_grown (C2.out.alloc (.cells #[.string ⟨zsec.toArray⟩] 9)) (M2.out.o1.alloc _) (by omega) g3
      have hb3 := (Chg.of_grown g3).obj (own_above (M2.out.o1.alloc (.cells #[.string ⟨zsec.toArray⟩] 9))) (obj_alloc _ M2.out.hb)
      have f3 : w3.frozen? ⟨w.heap.size, 1, none⟩ = false := frozen_of hb3
      have c3 : w3.cell? ⟨w.heap.size, 1, none⟩ = some v1 := cell_of hb3 rfl
      obtain ⟨sa1, sc1, rfl⟩ := own_shape o3
      have M1 := Lib.hid m3
      have C1 := Lib.hid (k3.setCell (S := fun _ => False) (p := ⟨w.heap.size, 1, none⟩) (fun e => absurd e (Nat.lt_irrefl _)) (.slice sa1 (k + 1) sc1))
      have hz6 : w.heap.size + 1 ≤ (w3.setCell ⟨w.heap.size, 1, none⟩ (.slice sa1 (k + 1) sc1)).heap.size := by have := lt_of_obj m3.hb; omega
      clear o3 g3 s3 m3 k3 hb3 c2 M2 C2 hbase
      go_wp2_with fail
      refine ⟨.inr c3, ?_⟩
      refine planL_ef rfl ?_
      go_wp2_with fail
      refine ⟨.inr c3, ?_⟩
      refine planL_ef rfl ?_
      go_wp2_with fail
      refine ⟨.inr c3, ?_⟩
      refine planL_ef rfl ?_
      refine wpList_store_one rfl 46 (.tmp 37) (.tmp 35) rfl w.heap.size 1 rfl (.slice sa1 (k + 1) sc1) rfl rfl rfl Try.sizeStrs _ c3 f3 ?_
      intro w6 hw4
      rw [← hw4] at M1 C1 hz6
      clear hw4 c3 f3
      refine ⟨.inl rfl, planL_nil ?_⟩
      have c6 : w6.cell? ⟨w.heap.size, 2, none⟩ = some v2 := cell_of M1.out.hb rfl
      have f6 : w6.frozen? ⟨w.heap.size, 2, none⟩ = false := frozen_of M1.out.hb
      go_wp2_with (at_builtin; refine wpList_pushF rfl (.tmp 42) (.tmp 43) 35 rfl 4 1 1 Try.underlying35 Try.elemBool (w.heap.size + 1) _ _ _ rfl (M1.out.o2.alloc _) _ [.bool false] 4 (0, 0) rfl (obj_alloc_new _ _) rfl ?c1 ?c2 ?c3 ?c4 ?next)
      case c1 => intro u hu; simp at hu; subst hu; rfl
      case c2 => omega
      case c3 => unfold maxLen; omega
      case c4 => simp; omega
      case next =>
        intro v w3 o3 g3 s3
        have m3 := (M1.out.chg (chg_alloc (fun _ => False) w6 (.cells #[.bool false] 4))).step2 o3 g3 s3
        have k3 := own_grown (C1.out.alloc (.cells #[.bool false] 4)) (M1.out.o2.alloc _) (by omega) g3
        have hb3 := (Chg.of_grown g3).obj (own_above (M1.out.o2.alloc (.cells #[.bool false] 4))) (obj_alloc _ M1.out.hb)
        have f3 : w3.frozen? ⟨w.heap.size, 2, none⟩ = false := frozen_of hb3
        have c3 : w3.cell? ⟨w.heap.size, 2, none⟩ = some v2 := cell_of hb3 rfl
        obtain ⟨sa, sc, rfl⟩ := own_shape o3
        have M3 := Lib.hid m3
        have K3 := Lib.hid (k3.setCell (S := fun _ => False) (p := ⟨w.heap.size, 2, none⟩) (fun e => absurd e (Nat.lt_irrefl _)) (.slice sa (k + 1) sc))
        clear o3 g3 s3 m3 k3 hb3 c6 f6
        go_wp2
        go_roundw
        case rel => exact ⟨k + 1, _, _, _, by omega, by go_num, M3.out, K3.out⟩
        case measure => simp [intOf]; omega
    · obtain rfl : k = n := by omega
      have k3 := h3
      obtain ⟨gs, cs, rfl, bs1, rs⟩ := rowAt_own HM.out.o0 (by omega)
      obtain ⟨gn, cn, rfl, bn1, rn⟩ := rowAt_own HM.out.o1 (by omega)
      obtain ⟨gw, cw, rfl, bw1, rw'⟩ := rowAt_own HM.out.o2 (by omega)
      have a1 : gs ≠ gn := fun e => HM.out.a1 gs rfl (by rw [e]; rfl)
      have a2 : gs ≠ gw := fun e => HM.out.a2 gs rfl (by rw [e]; rfl)
      have a3 : gn ≠ gw := fun e => HM.out.a3 gn rfl (by rw [e]; rfl)
      have RES := Lib.hid (show RDevAt wr ⟨w.heap.size, gs, gn, gw, k, cs, cn, cw⟩ (Dev.new k) from ⟨HM.out.hb, rs, rn, rw', Dev.ok_new k h3 h65, fun i _ _ => rfl, by show w.heap.size ≠ gs; omega, by show w.heap.size ≠ gn; omega, by show w.heap.size ≠ gw; omega, a1, a2, a3⟩)
      clear rs rn rw' a1 a2 a3 HM
      go_wp2
      go_ret
      refine ⟨⟨w.heap.size, gs, gn, gw, k, cs, cn, cw⟩, rfl, rfl, RES.out, HC.out, fun j hj => ⟨?_, RES.out.lt hj⟩⟩
      rcases hj with e | e | e | e
      · have e : j = w.heap.size := e
        omega
      · have e : j = gs := e
        omega
      · have e : j = gn := e
        omega
      · have e : j = gw := e
        omega
end Go.Proofs.Ytnmgnhhipgiggaa
