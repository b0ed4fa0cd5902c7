/-
  RRefA: what else.
  RFind: what else.
-/
import Derived.Test.YthdfplafihmejaaGreatRHelp
import Derived.Test.YthdfplafihmejaaGreatBaseZ
namespace Go.Proofs.YthdfplafihmejaaGreat

theorem byte_hi (x y : UInt8) : UInt8.ofNat ((x.toNat * 256 + y.toNat) / 256) = x := by
 have := y.toNat_lt
 rw [show (x.toNat * 256 + y.toNat) / 256 = x.toNat by omega]; simp
theorem byte_lo (x y : UInt8) : UInt8.ofNat ((x.toNat * 256 + y.toNat) % 256) = y := by
 have := y.toNat_lt
 rw [show (x.toNat * 256 + y.toNat) % 256 = y.toNat by omega]; simp
theorem atoms_cons2 (x y : UInt8) (l : Wd) : atoms (x :: y :: l) = (x.toNat * 256 + y.toNat) :: atoms l := by
 apply List.ext_getElem?
 intro i
 have e : alen (x :: y :: l) = alen l + 1 := by unfold alen; simp only [List.length_cons]; omega
 rcases i with _ | i
 ·rw [atoms_get _ (by omega)]; rfl
 ·by_cases hi : i < alen l
  ·rw [atoms_get _ (by omega), List.getElem?_cons_succ, atoms_get _ hi]
   rfl
  ·rw [List.getElem?_eq_none (by rw [atoms_length]; omega), List.getElem?_eq_none (by rw [List.length_cons, atoms_length]; omega)]
theorem ofAtoms_atoms : ∀ (l : Wd), l.length % 2 = 0 → ofAtoms (atoms l) = l
 | [], _ => rfl
 | [x], h => by simp at h
 | x :: y :: l, h => by
  have := ofAtoms_atoms l (by simp only [List.length_cons] at h; omega)
  rw [atoms_cons2]
  unfold ofAtoms at this ⊢
  rw [List.flatMap_cons, this, byte_hi, byte_lo]; rfl
theorem atoms_append : ∀ (a b : Wd), a.length % 2 = 0 → atoms (a ++ b) = atoms a ++ atoms b
 | [], b, _ => by simp [atoms, alen]
 | [x], b, h => by simp at h
 | x :: y :: l, b, h => by
  rw [List.cons_append, List.cons_append, atoms_cons2, atoms_cons2, atoms_append l b (by simp only [List.length_cons] at h; omega)]; rfl
theorem atoms_take : ∀ (k : Nat) (l : Wd), atoms (l.take (2 * k)) = (atoms l).take k
 | 0, l => by simp [atoms, alen]
 | k + 1, [] => by simp [atoms, alen]
 | k + 1, [x] => by
  rw [List.take_of_length_le (by simp; omega), List.take_of_length_le (by rw [atoms_length]; unfold alen; simp)]
 | k + 1, x :: y :: l => by
  rw [show 2 * (k + 1) = 2 * k + 1 + 1 by omega, List.take_succ_cons, List.take_succ_cons, atoms_cons2, atoms_cons2, List.take_succ_cons, atoms_take k l]
theorem atoms_drop : ∀ (k : Nat) (l : Wd), atoms (l.drop (2 * k)) = (atoms l).drop k
 | 0, l => by simp
 | k + 1, [] => by simp [atoms, alen]
 | k + 1, [x] => by
  rw [List.drop_eq_nil_of_le (by simp; omega), List.drop_eq_nil_of_le (by rw [atoms_length]; unfold alen; simp)]; rfl
 | k + 1, x :: y :: l => by
  rw [show 2 * (k + 1) = 2 * k + 1 + 1 by omega, List.drop_succ_cons, List.drop_succ_cons, atoms_cons2, List.drop_succ_cons, atoms_drop k l]
theorem atoms_cut (l : Wd) (a n : Nat) : ((atoms l).drop a).take n = atoms ((l.drop (2 * a)).take (2 * n)) := by rw [atoms_take, atoms_drop]
theorem cut_bytes (l : Wd) (a n : Nat) (h : a + n ≤ alen l) : ofAtoms (((atoms l).drop a).take n) = (l.drop (2 * a)).take (2 * n) := by
 rw [atoms_cut, ofAtoms_atoms]
 unfold alen at h
 rw [List.length_take, List.length_drop]; omega
theorem atoms_swap (l v : Wd) (a n : Nat) (hv : v.length % 2 = 0) (h : a + n ≤ alen l) : (atoms l).take a ++ atoms v ++ (atoms l).drop (a + n) = atoms (swapAt l a n v) := by
 unfold swapAt
 unfold alen at h
 rw [atoms_append _ _ (by simp only [List.length_append, List.length_take]; omega), atoms_append _ _ (by rw [List.length_take]; omega), atoms_take, atoms_drop]
theorem swap_bytes (l v : Wd) (a n : Nat) (hl : l.length % 2 = 0) (hv : v.length % 2 = 0) (h : a + n ≤ alen l) : ofAtoms ((atoms l).take a ++ atoms v ++ (atoms l).drop (a + n)) = swapAt l a n v := by
 rw [atoms_swap l v a n hv h, ofAtoms_atoms]
 unfold swapAt
 unfold alen at h
 simp only [List.length_append, List.length_take, List.length_drop]; omega
end Go.Proofs.YthdfplafihmejaaGreat

namespace Go.Proofs.YthdfplafihmejaaGreat
open Go.RowKit Go.Maps

theorem acells_get (l : List Nat) (j : Nat) : (acells l)[j]? = (l[j]?).map fun (a : Nat) => Value.int .u16 (a : Int) := by unfold acells; rw [List.getElem?_map]
theorem atoms_lt {l : Wd} {a : Nat} (h : a ∈ atoms l) : a < 65536 := by
 unfold atoms at h
 rw [List.mem_map] at h
 obtain ⟨i, _, rfl⟩ := h
 exact atomAt_lt l i
set_option maxRecDepth 100000 in
theorem rsub_any (w : World) (s : ByteArray) (a : Int) (n : Nat) (hs : s.size ≤ 1000) (hs2 : s.size % 2 = 0) (hn : 1 ≤ n) (hn2 : n ≤ 1000) (ha : -9223372036854775808 ≤ a ∧ a ≤ 9223372036854775807) :
  Calls Tryz.prog 109 #[.string s, .int .i64 a, .int .i64 (n : Int)] w fun e w' => e = .returned (subV s a n) ∧ Chg (fun _ => False) w w' := by
 have ATO := Lib.hid (ratoms_any w s (by omega))
 have hN : s.size = 2 * alen s.data.toList := by unfold alen; rw [size_list]; omega
 have CUT := Lib.hid (cut_bytes s.data.toList a.toNat n)
 have AL := Lib.hid (atoms_length s.data.toList)
 have SV := Lib.hid (show (SubOk s a n → subV s a n = .tuple #[.string (bar ((s.data.toList.drop (2 * a.toNat)).take (2 * n))), .int .i64 0]) ∧ (¬ SubOk s a n → subV s a n = .tuple #[.string ⟨#[]⟩, .int .i64 5]) from ⟨fun h => if_pos h, fun h => if_neg h⟩)
 have SO := Lib.hid (show SubOk s a n ↔ 0 ≤ a ∧ a + n ≤ alen s.data.toList from Iff.rfl)
 rw [AL.out] at ATO
 generalize alen s.data.toList = N at *
 have g0 : ((s.size : Int) % 2 == 1) = false := by rw [beq_eq_false_iff_ne]; omega
 have g1 : decide ((n : Int) < 0) = false := by rw [decide_eq_false_iff_not]; omega
 by_cases h1 : a < 0
 ·have g2 : decide (a < 0) = true := by rw [decide_eq_true_eq]; exact h1
  have RES := Lib.hid (SV.out.2 (fun h => by have := SO.out.1 h; omega))
  clear hN
  go_enter Tryz.func109, Tryz.ntmps109
  go_wp2_with fail
  (with_reducible refine (ATO.out).mono ?_)
  rintro e w1 ⟨v1, rfl, o1, c1⟩
  go_wp2
  go_ret2
  exact ⟨by rw [RES.out]; rfl, c1⟩
 ·have g2 : decide (a < 0) = false := by rw [decide_eq_false_iff_not]; exact h1
  obtain ⟨i, rfl⟩ : ∃ i : Nat, a = i := ⟨a.toNat, by omega⟩
  by_cases h2 : N < i
  ·have g3 : decide (N < i) = true := by rw [decide_eq_true_eq]; exact h2
   have RES := Lib.hid (SV.out.2 (fun h => by have := SO.out.1 h; omega))
   clear hN
   go_enter Tryz.func109, Tryz.ntmps109
   go_wp2_with fail
   (with_reducible refine (ATO.out).mono ?_)
   rintro e w1 ⟨v1, rfl, o1, c1⟩
   obtain ⟨av, cv, rfl⟩ := own_shape o1
   go_wp2
   go_ret2
   exact ⟨by rw [RES.out]; rfl, c1⟩
  ·have g3 : decide (N < i) = false := by rw [decide_eq_false_iff_not]; exact h2
   by_cases h3 : N < i + n
   ·have g4 : decide ((N : Int) - (i : Int) < (n : Int)) = true := by rw [decide_eq_true_eq]; omega
    have RES := Lib.hid (SV.out.2 (fun h => by have := SO.out.1 h; omega))
    have hN2 : N ≤ 1000 := by omega
    clear hN
    go_enter Tryz.func109, Tryz.ntmps109
    go_wp2_with fail
    (with_reducible refine (ATO.out).mono ?_)
    rintro e w1 ⟨v1, rfl, o1, c1⟩
    obtain ⟨av, cv, rfl⟩ := own_shape o1
    go_wp2
    go_ret2
    exact ⟨by rw [RES.out]; rfl, c1⟩
   ·have g4 : decide ((N : Int) - (i : Int) < (n : Int)) = false := by rw [decide_eq_false_iff_not]; omega
    have RES := Lib.hid (SV.out.1 (SO.out.2 ⟨by omega, by omega⟩))
    have CB := Lib.hid (CUT.out (by omega))
    have hN2 : N ≤ 1000 := by omega
    clear hN
    go_enter Tryz.func109, Tryz.ntmps109
    go_wp2_with fail
    (with_reducible refine (ATO.out).mono ?_)
    rintro e w1 ⟨v1, rfl, o1, c1⟩
    obtain ⟨av, cv, rfl⟩ := own_shape o1
    obtain ⟨g, rfl⟩ := own_some o1 (by omega)
    have hcv : N ≤ cv ∧ cv ≤ maxLen := by
     obtain ⟨_, ⟨q, _⟩ | ⟨g', c', cur, q, _, _, q1, q2, _⟩⟩ := o1
     ·cases q
     ·cases q; exact ⟨q1, q2⟩
    obtain ⟨hc1, hc2⟩ := hcv
    unfold maxLen at hc2
    have e1 : (i == cv) = false := by rw [beq_eq_false_iff_ne]; omega
    have e2 : i ≠ cv := by omega
    have OF := Lib.hid (rof_any w1 (some ⟨g, i, none⟩) (cv - i) (((atoms s.data.toList).drop i).take n) (by rw [List.length_take, List.length_drop, AL.out]; omega) (by rw [List.length_take, List.length_drop, AL.out]; omega) (fun j x hj => by
     have hj' : j < n := by
      have := (List.getElem?_eq_some_iff.1 hj).1
      rw [List.length_take] at this; omega
     rw [List.getElem?_take_of_lt hj', List.getElem?_drop] at hj
     refine ⟨atoms_lt (List.mem_of_getElem? hj), g, i, rfl, ?_⟩
     rw [o1.cellAt (i + j) (by omega), acells_get, hj]; rfl))
    rw [show (((atoms s.data.toList).drop i).take n).length = n by rw [List.length_take, List.length_drop, AL.out]; omega] at OF
    have C1 := Lib.hid c1
    clear c1 o1
    rw [Int.toNat_natCast] at CB RES
    rw [CB.out] at OF
    go_wp2_with fail
    (with_reducible refine (OF.out).mono ?_)
    rintro e w2 ⟨rfl, c2⟩
    go_wp2
    go_ret2
    exact ⟨by rw [RES.out]; rfl, C1.out.trans c2⟩
theorem rsub_yes (w : World) (s : ByteArray) (i n : Nat) (hs : s.size ≤ 1000) (hs2 : s.size % 2 = 0) (hn : 1 ≤ n) (hn2 : n ≤ 1000) (h : i + n ≤ alen s.data.toList) :
  Calls Tryz.prog 109 #[.string s, .int .i64 (i : Int), .int .i64 (n : Int)] w fun e w' => e = .returned (.tuple #[.string (bar ((s.data.toList.drop (2 * i)).take (2 * n))), .int .i64 0]) ∧ Chg (fun _ => False) w w' := by
 have hN : s.size = 2 * alen s.data.toList := by unfold alen; rw [size_list]; omega
 have := rsub_any w s i n hs hs2 hn hn2 (by omega)
 unfold subV at this
 rw [if_pos ⟨by omega, by omega⟩, Int.toNat_natCast] at this
 exact this
set_option maxHeartbeats 1000000 in
set_option maxRecDepth 100000 in
theorem rswap_ok (w : World) (s v : ByteArray) (i n : Nat) (hs : s.size ≤ 1000) (hv : v.size ≤ 1000) (hs2 : s.size % 2 = 0) (hv2 : v.size % 2 = 0) (hv0 : 0 < v.size) (hn : 1 ≤ n) (h : i + n ≤ alen s.data.toList) (h8 : alen s.data.toList - n + alen v.data.toList ≤ 8) :
  Calls Tryz.prog 110 #[.string s, .int .i64 (i : Int), .int .i64 (n : Int), .string v] w fun e w' => e = .returned (.tuple #[.string (bar (swapAt s.data.toList i n v.data.toList)), .int .i64 0]) ∧ Chg (fun _ => False) w w' := by
 have hN : s.size = 2 * alen s.data.toList := by unfold alen; rw [size_list]; omega
 have hM : v.size = 2 * alen v.data.toList := by unfold alen; rw [size_list]; omega
 have SUB := Lib.hid (rsub_yes w s i n hs hs2 hn (by omega) h)
 have ATS := Lib.hid (fun w => ratoms_any w s (by omega))
 have ATV := Lib.hid (fun w => ratoms_any w v (by omega))
 have SWB := Lib.hid (swap_bytes s.data.toList v.data.toList i n (by rw [size_list]; exact hs2) (by rw [size_list]; exact hv2) h)
 have AL := Lib.hid (atoms_length s.data.toList)
 have AM := Lib.hid (atoms_length v.data.toList)
 have LS := Lib.hid (fun a (h : a ∈ atoms s.data.toList) => atoms_lt h)
 have LV := Lib.hid (fun a (h : a ∈ atoms v.data.toList) => atoms_lt h)
 rw [AL.out] at ATS
 rw [AM.out] at ATV
 generalize alen s.data.toList = N at *
 generalize alen v.data.toList = M at *
 generalize atoms s.data.toList = A at *
 generalize atoms v.data.toList = B at *
 have g0 : ((s.size : Int) % 2 == 1) = false := by rw [beq_eq_false_iff_ne]; omega
 have g1 : ((v.size : Int) % 2 == 1) = false := by rw [beq_eq_false_iff_ne]; omega
 have hNb : N ≤ 2000 := by omega
 have hMb : 1 ≤ M := by omega
 clear hN hM
 go_enter Tryz.func110, Tryz.ntmps110
 go_wp2_with fail
 (with_reducible refine (SUB.out).mono ?_)
 rintro e w1 ⟨rfl, c1⟩
 have C1 := Lib.hid c1
 clear c1 SUB
 go_wp2_with fail
 (with_reducible refine (ATS.out _).mono ?_)
 rintro e w2 ⟨v2, rfl, o2, c2⟩
 obtain ⟨av, cv, rfl⟩ := own_shape o2
 obtain ⟨g, rfl⟩ := own_some o2 (by omega)
 have hcv : N ≤ cv ∧ cv ≤ maxLen := by
  obtain ⟨_, ⟨q, _⟩ | ⟨g', c', cur, q, _, _, q1, q2, _⟩⟩ := o2
  ·cases q
  ·cases q; exact ⟨q1, q2⟩
 obtain ⟨hc1, hc2⟩ := hcv
 unfold maxLen at hc2
 have C2 := Lib.hid (C1.out.trans c2)
 have O2 := Lib.hid o2
 have hgl : g < w2.heap.size := (o2.lt g rfl).2
 clear o2 c2 C1
 have z0 : 0 ≠ cv := by omega
 have z1 : ¬ cv = 0 := by omega
 have z2 : i ≤ cv := by omega
 have z3 : i + n ≤ cv := by omega
 go_wp2_with (at_builtin; refine wpList_pushS rfl (.tmp 36) (.tmp 39) 125 rfl 62 1 2 Tryz.underlying125 Tryz.elemAtom w2.heap.size _ 0 [] rfl (own_empty _ _ _ _ (Nat.le_refl _)) (some ⟨g, 0, none⟩) i cv (acells (A.take i)) rfl ?a1 ?a2 ?a3 ?a4 ?a5 ?a6 ?a7 ?next)
 case a1 => unfold acells; rw [List.length_map, List.length_take, AL.out]; omega
 case a2 =>
  intro j u hj
  rw [acells_get] at hj
  have hji : j < i := by
   rcases Nat.lt_or_ge j i with q | q
   ·exact q
   ·rw [List.getElem?_eq_none (by rw [List.length_take]; omega)] at hj; cases hj
  rw [List.getElem?_take_of_lt hji, ← acells_get] at hj
  refine ⟨g, 0, rfl, ?_⟩
  rw [Nat.zero_add]
  refine cell_chg (chg_alloc (fun _ => False) w2 _) (fun e => e) ?_
  rw [O2.out.cellAt j (by omega)]; exact hj
 case a3 => intro q; cases q
 case a4 => intro u hu; unfold acells at hu; rw [List.mem_map] at hu; obtain ⟨x, _, rfl⟩ := hu; rfl
 case a5 => omega
 case a6 => unfold maxLen; omega
 case a7 => simp
 intro v3 w3 o3 g3
 have k3 : Chg (fun _ => False) w2 w3 := (chg_alloc (fun _ => False) w2 (.cells #[] 62)).next (Chg.of_grown g3) (fun x hx e => by
  have e2 : w2.heap.size = x := by simpa [Value.ownBlock] using e
  omega)
 have C3 := Lib.hid (C2.out.trans k3)
 have O3 := Lib.hid o3
 have O23 := Lib.hid (own_chg O2.out k3 (fun _ _ e => e))
 have hs3 := k3.size
 obtain ⟨a3, cp3, rfl⟩ := own_shape o3
 clear o3 g3 k3 O2
 go_wp2_with fail
 (with_reducible refine (ATV.out _).mono ?_)
 rintro e w4 ⟨v4, rfl, o4, c4⟩
 obtain ⟨av4, cv4, rfl⟩ := own_shape o4
 obtain ⟨g4, rfl⟩ := own_some o4 (by omega)
 have O4 := Lib.hid o4
 have O34 := Lib.hid (own_chg O3.out c4 (fun _ _ e => e))
 have O24 := Lib.hid (own_chg O23.out c4 (fun _ _ e => e))
 have C4 := Lib.hid (C3.out.trans c4)
 have hs4 := c4.size
 clear o4 c4 C3 O3 O23
 go_wp2_with (at_builtin; refine wpList_pushS rfl (.tmp 41) (.tmp 43) 125 rfl 62 1 2 Tryz.underlying125 Tryz.elemAtom w2.heap.size _ i (acells (A.take i)) rfl O34.out (some ⟨g4, 0, none⟩) M cv4 (acells B) rfl ?b1 ?b2 ?b3 ?b4 ?b5 ?b6 ?b7 ?next2)
 case b1 => unfold acells; rw [List.length_map, AM.out]; omega
 case b2 =>
  intro j u hj
  refine ⟨g4, 0, rfl, ?_⟩
  have hjl := (List.getElem?_eq_some_iff.1 hj).1
  unfold acells at hjl
  rw [List.length_map, AM.out] at hjl
  rw [Nat.zero_add, O4.out.cellAt j (by omega)]; exact hj
 case b3 => intro q; cases q
 case b4 => intro u hu; unfold acells at hu; rw [List.mem_map] at hu; obtain ⟨x, _, rfl⟩ := hu; rfl
 case b5 => omega
 case b6 => unfold maxLen; omega
 case b7 => omega
 intro v5 w5 o5 g5
 have k5 : Chg (fun _ => False) w w5 := C4.out.next (Chg.of_grown g5) (fun x hx e => by
  have := (O34.out.lt x e).1
  have := C2.out.size
  omega)
 have O25 := Lib.hid (own_chg O24.out (Chg.of_grown g5) (fun x hx e => by
  have h1 := (O34.out.lt x e).1
  have h2 : g = x := by simpa [Value.ownBlock] using hx
  omega))
 have C5 := Lib.hid k5
 have O5 := Lib.hid o5
 have hs5 := g5.size
 obtain ⟨a5, cp5, rfl⟩ := own_shape o5
 clear o5 k5 g5 C4 O34 O24
 have AFT := Lib.hid (show ∀ (v6 : Value) (w6 : World), w6.ownsRow w2.heap.size 62 1 v6 (i + M + (N - (i + n))) (acells (A.take i) ++ acells B ++ acells (A.drop (i + n))) → ∃ a6 c6, v6 = .slice a6 (i + M + (N - (i + n))) c6 ∧ (Calls Tryz.prog 30 #[.slice a6 (i + M + (N - (i + n))) c6] w6 fun e w' => e = .returned (.string (bar (swapAt s.data.toList i n v.data.toList))) ∧ Chg (fun _ => False) w6 w') from fun v6 w6 o6 => by
  obtain ⟨a6, c6, rfl⟩ := own_shape o6
  refine ⟨a6, c6, rfl, ?_⟩
  have el : (A.take i ++ B ++ A.drop (i + n)).length = i + M + (N - (i + n)) := by simp only [List.length_append, List.length_take, List.length_drop, AL.out, AM.out]; omega
  have ec : acells (A.take i) ++ acells B ++ acells (A.drop (i + n)) = acells (A.take i ++ B ++ A.drop (i + n)) := by unfold acells; simp only [List.map_append]
  rw [ec] at o6
  obtain ⟨g6, rfl⟩ := own_some o6 (by omega)
  have := rof_any w6 (some ⟨g6, 0, none⟩) c6 (A.take i ++ B ++ A.drop (i + n)) (by rw [el]; omega) (by rw [el]; omega) (fun j x hj => by
   refine ⟨?_, g6, 0, rfl, ?_⟩
   ·have hm := List.mem_of_getElem? hj
    rw [List.mem_append, List.mem_append] at hm
    rcases hm with (hm | hm) | hm
    ·exact LS.out x (List.mem_of_mem_take hm)
    ·exact LV.out x hm
    ·exact LS.out x (List.mem_of_mem_drop hm)
   ·have hjl := (List.getElem?_eq_some_iff.1 hj).1
    rw [Nat.zero_add, o6.cellAt j (by omega), acells_get, hj]; rfl)
  rw [el] at this
  rw [SWB.out] at this
  exact this)
 have hlast : i + M + (N - (i + n)) ≤ 8 := by omega
 have FIN := Lib.hid (show ∀ (v6 : Value) (w6 : World), w5.grownBy w6 (Value.slice a5 (i + M) cp5).ownBlock → Chg (fun _ => False) w w6 from fun v6 w6 g6 => C5.out.next (Chg.of_grown g6) (fun x hx e => by
  have := (O5.out.lt x e).1
  have := C2.out.size
  omega))
 by_cases hq : i + n = cv
 ·have hNN : N = i + n := by omega
  have g9 : N - (i + n) = 0 := by omega
  subst hq
  subst hNN
  go_wp2_with (at_builtin; refine wpList_pushS rfl (.tmp 45) (.tmp 50) 125 rfl 62 1 2 Tryz.underlying125 Tryz.elemAtom w2.heap.size _ (i + M) (acells (A.take i) ++ acells B) rfl O5.out (some ⟨g, 0, none⟩) (i + n - (i + n)) (i + n - (i + n)) [] rfl ?d1 ?d2 ?d3 ?d4 ?d5 ?d6 ?d7 ?next3)
  case d1 => simp
  case d2 => intro j u hj; simp at hj
  case d3 => intro q; cases q
  case d4 => intro u hu; cases hu
  case d5 => omega
  case d6 => unfold maxLen; omega
  case d7 => omega
  intro v6 w6 o6 g6
  have K6 := Lib.hid (FIN.out v6 w6 g6)
  obtain ⟨a6, c6, rfl, OF⟩ := AFT.out v6 w6 (by rw [List.drop_eq_nil_of_le (show A.length ≤ i + n by rw [AL.out]; omega)]; simpa [acells] using o6)
  have OFF := Lib.hid OF
  rw [Nat.sub_self, Nat.add_zero] at OFF
  clear o6 g6 OF AFT
  go_wp2_with fail
  (with_reducible refine (OFF.out).mono ?_)
  rintro e w7 ⟨rfl, c7⟩
  go_wp2
  go_ret2
  exact ⟨rfl, K6.out.trans c7⟩
 ·have hq2 : ¬ cv = i + n := fun e => hq e.symm
  go_wp2_with (at_builtin; refine wpList_pushS rfl (.tmp 45) (.tmp 50) 125 rfl 62 1 2 Tryz.underlying125 Tryz.elemAtom w2.heap.size _ (i + M) (acells (A.take i) ++ acells B) rfl O5.out (some ⟨g, i + n, none⟩) (N - (i + n)) (cv - (i + n)) (acells (A.drop (i + n))) rfl ?f1 ?f2 ?f3 ?f4 ?f5 ?f6 ?f7 ?next4)
  case f1 => unfold acells; rw [List.length_map, List.length_drop, AL.out]; omega
  case f2 =>
   intro j u hj
   rw [acells_get, List.getElem?_drop, ← acells_get] at hj
   have hjl := (List.getElem?_eq_some_iff.1 hj).1
   unfold acells at hjl
   rw [List.length_map, AL.out] at hjl
   refine ⟨g, i + n, rfl, ?_⟩
   rw [O25.out.cellAt (i + n + j) (by omega)]; exact hj
  case f3 => intro q; cases q
  case f4 => intro u hu; unfold acells at hu; rw [List.mem_map] at hu; obtain ⟨x, _, rfl⟩ := hu; rfl
  case f5 => omega
  case f6 => unfold maxLen; omega
  case f7 => omega
  intro v6 w6 o6 g6
  have K6 := Lib.hid (FIN.out v6 w6 g6)
  obtain ⟨a6, c6, rfl, OF⟩ := AFT.out v6 w6 (by simpa using o6)
  have OFF := Lib.hid OF
  clear o6 g6 OF AFT
  go_wp2_with fail
  (with_reducible refine (OFF.out).mono ?_)
  rintro e w7 ⟨rfl, c7⟩
  go_wp2
  go_ret2
  exact ⟨rfl, K6.out.trans c7⟩
end Go.Proofs.YthdfplafihmejaaGreat

namespace Go.Proofs.YthdfplafihmejaaGreat
open Go.RowKit Go.Maps

theorem bytes_eq (a b : ByteArray) : (a.toList == b.toList) = decide (a.data.toList = b.data.toList) := by
 rw [ByteArray.toList_eq, ByteArray.toList_eq, Bool.eq_iff_iff, beq_iff_eq, decide_eq_true_eq]
theorem bytes_ne (a b : ByteArray) : (a.toList != b.toList) = !decide (a.data.toList = b.data.toList) := by
 rw [bne, bytes_eq]
theorem counts_len {a b : ByteArray} (ha : mayB a.data.toList = true) (hb : mayB b.data.toList = true) : countsB (brul (a, b)) = decide (b.size ≤ a.size) := by
 have h1 := may_size ha
 have h2 := may_size hb
 unfold countsB brul
 simp only
 rw [ha, hb, Bool.true_and, Bool.true_and]
 unfold alen
 rw [size_list, size_list]
 congr 1
 rw [eq_iff_iff]
 omega
set_option maxRecDepth 100000 in
theorem rcounts_any (w : World) (r : BRul) (h1 : r.1.size ≤ 140737488355328) (h2 : r.2.size ≤ 140737488355328) :
  Calls Tryz.prog 26 #[ruleV r] w fun e w' => e = .returned (.bool (countsB (brul r))) ∧ Chg (fun _ => False) w w' := by
 obtain ⟨a, b⟩ := r
 simp only at h1 h2
 have MA := Lib.hid (fun w => rmay_any w a h1)
 have MB := Lib.hid (fun w => rmay_any w b h2)
 have CB := Lib.hid (show countsB (brul (a, b)) = (mayB a.data.toList && mayB b.data.toList && decide (alen b.data.toList ≤ alen a.data.toList)) from rfl)
 have CL := Lib.hid (@counts_len a b)
 unfold ruleV
 simp only
 cases ha : mayB a.data.toList with
 | false =>
  rw [ha] at MA CB
  clear ha
  go_enter Tryz.func26, Tryz.ntmps26
  go_wp2_with fail
  (with_reducible refine (MA.out _).mono ?_)
  rintro e w1 ⟨rfl, k1⟩
  go_wp2
  go_ret
  exact ⟨by rw [CB.out]; rfl, (chg_alloc _ w _).trans k1⟩
 | true =>
  rw [ha] at MA CB
  have o0 := obj_alloc_new w (.cells #[.string a, .string b] 66)
  cases hb : mayB b.data.toList with
  | false =>
   rw [hb] at MB CB
   clear ha hb
   have O0 := Lib.hid o0
   clear o0
   go_enter Tryz.func26, Tryz.ntmps26
   go_wp2_with fail
   (with_reducible refine (MA.out _).mono ?_)
   rintro e w1 ⟨rfl, k1⟩
   have d1 : w1.cell? ⟨w.heap.size, 1, none⟩ = some (.string b) := cell_of (k1.obj (fun e => e) O0.out) rfl
   go_wp2_with fail
   (with_reducible refine (MB.out _).mono ?_)
   rintro e w2 ⟨rfl, k2⟩
   go_wp2
   go_ret
   exact ⟨by rw [CB.out]; rfl, ((chg_alloc _ w _).trans k1).trans k2⟩
  | true =>
   rw [hb] at MB
   have CC := Lib.hid (CL.out ha hb)
   clear ha hb
   have O0 := Lib.hid o0
   clear o0
   cases hl : decide (b.size ≤ a.size) with
   | false =>
    rw [hl] at CC
    go_enter Tryz.func26, Tryz.ntmps26
    go_wp2_with fail
    (with_reducible refine (MA.out _).mono ?_)
    rintro e w1 ⟨rfl, k1⟩
    have d1 : w1.cell? ⟨w.heap.size, 1, none⟩ = some (.string b) := cell_of (k1.obj (fun e => e) O0.out) rfl
    go_wp2_with fail
    (with_reducible refine (MB.out _).mono ?_)
    rintro e w2 ⟨rfl, k2⟩
    have d2 : w2.cell? ⟨w.heap.size, 1, none⟩ = some (.string b) := cell_chg k2 (fun e => e) d1
    have d3 : w2.cell? ⟨w.heap.size, 0, none⟩ = some (.string a) := cell_of (k2.obj (fun e => e) (k1.obj (fun e => e) O0.out)) rfl
    go_wp2
    go_ret
    exact ⟨by rw [CC.out]; rfl, ((chg_alloc _ w _).trans k1).trans k2⟩
   | true =>
    rw [hl] at CC
    go_enter Tryz.func26, Tryz.ntmps26
    go_wp2_with fail
    (with_reducible refine (MA.out _).mono ?_)
    rintro e w1 ⟨rfl, k1⟩
    have d1 : w1.cell? ⟨w.heap.size, 1, none⟩ = some (.string b) := cell_of (k1.obj (fun e => e) O0.out) rfl
    go_wp2_with fail
    (with_reducible refine (MB.out _).mono ?_)
    rintro e w2 ⟨rfl, k2⟩
    have d2 : w2.cell? ⟨w.heap.size, 1, none⟩ = some (.string b) := cell_chg k2 (fun e => e) d1
    have d3 : w2.cell? ⟨w.heap.size, 0, none⟩ = some (.string a) := cell_of (k2.obj (fun e => e) (k1.obj (fun e => e) O0.out)) rfl
    go_wp2
    go_ret
    exact ⟨by rw [CC.out]; rfl, ((chg_alloc _ w _).trans k1).trans k2⟩
set_option maxHeartbeats 1000000 in
set_option maxRecDepth 100000 in
theorem ruse_any (w : World) (v : Value) (R : List BRul) (u : ByteArray) (xa xk : Int) (hv : RulesAt w v (· < w.heap.size) R) (h47 : Fit47 R) (hmay : mayB u.data.toList = true) (hxa : -9223372036854775808 ≤ xa ∧ xa ≤ 9223372036854775807) :
  Calls Tryz.prog 78 #[v, .string u, .agg #[.int .i64 xa, .int .i64 xk]] w fun e w' => e = .returned (useV (stepI (R.map brul) u.data.toList (xa, xk))) ∧ Chg (fun _ => False) w w' := by
 have HV := Lib.hid hv
 obtain ⟨la, cap, rfl, hl0, hvl⟩ := hv
 have hu8 := may_size hmay
 have HMAY := Lib.hid hmay
 unfold maxLen at hl0
 have b0 := obj_alloc_new w (.cells #[.int .i64 xa, .int .i64 xk] 153)
 have B0 := Lib.hid b0
 have K2 := Lib.hid (chg_alloc (fun _ => False) w (.cells #[.int .i64 xa, .int .i64 xk] 153))
 clear b0 hmay
 by_cases hx0 : xk < 0
 ·have g0 : decide (xk < 0) = true := by rw [decide_eq_true_eq]; exact hx0
  have RES := Lib.hid (stepI_no_rule (R := R.map brul) (w := u.data.toList) (x := (xa, xk)) (fun q => by have := q.1; simp only at this; omega))
  clear hx0 hvl
  go_enter Tryz.func78, Tryz.ntmps78
  go_wp2
  go_ret2
  exact ⟨by rw [RES.out]; rfl, K2.out⟩
 ·have g0 : decide (xk < 0) = false := by rw [decide_eq_false_iff_not]; exact hx0
  obtain ⟨j, rfl⟩ : ∃ j : Nat, xk = j := ⟨xk.toNat, by omega⟩
  by_cases hj : R.length ≤ j
  ·have g1 : decide (R.length ≤ j) = true := by rw [decide_eq_true_eq]; exact hj
   have RES := Lib.hid (stepI_no_rule (R := R.map brul) (w := u.data.toList) (x := (xa, (j : Int))) (fun q => by have := q.2.1; simp only [List.length_map] at this; omega))
   clear hvl
   go_enter Tryz.func78, Tryz.ntmps78
   go_wp2
   go_ret2
   exact ⟨by rw [RES.out]; rfl, K2.out⟩
  ·have g1 : decide (R.length ≤ j) = false := by rw [decide_eq_false_iff_not]; exact hj
   have hjl : j < R.length := by omega
   obtain ⟨⟨ra, rb⟩, hr⟩ : ∃ r, R[j]? = some r := ⟨_, List.getElem?_eq_getElem (show j < R.length by omega)⟩
   obtain ⟨ga, gc, rfl, hga, d0, d1, hra, hrb⟩ := hvl j _ hr
   obtain ⟨h47a, h47b⟩ := h47 _ (List.mem_of_getElem? hr)
   simp only at d0 d1 h47a h47b
   have RU := Lib.hid (rule_at hr)
   have US := Lib.hid (fun a => useAt_eq hr u.data.toList a)
   have CNT := Lib.hid (rcounts_any (w.alloc (.cells #[.int .i64 xa, .int .i64 (j : Int)] 153)) (ra, rb) h47a h47b)
   unfold ruleV at CNT
   simp only at CNT
   clear hvl hr
   cases hc : countsB (brul (ra, rb)) with
   | false =>
    rw [hc] at CNT
    have RES := Lib.hid (stepI_no_rule (R := R.map brul) (w := u.data.toList) (x := (xa, (j : Int))) (fun q => by have h := q.2.2; simp only [Int.toNat_natCast] at h; rw [RU.out, hc] at h; cases h))
    clear hc
    go_enter Tryz.func78, Tryz.ntmps78
    go_wp2_with fail
    (with_reducible refine (CNT.out).mono ?_)
    rintro e w3 ⟨rfl, k3⟩
    go_wp2
    go_ret2
    exact ⟨by rw [RES.out]; rfl, K2.out.trans k3⟩
   | true =>
    rw [hc] at CNT
    obtain ⟨m1, m2, m3⟩ := (counts_iff _).1 hc
    simp only [brul] at m1 m2 m3
    have SA := may_size m1
    have SB := may_size m2
    have PA := may_pos m1
    have PB := may_pos m2
    rw [size_list] at PA PB
    have NP := Lib.hid (fun h => stepI_no_place (R := R.map brul) (w := u.data.toList) (x := (xa, (j : Int))) (by simp only [Int.toNat_natCast]; rw [RU.out]; exact h))
    have HC := Lib.hid hc
    clear hc m1 m2
    go_enter Tryz.func78, Tryz.ntmps78
    go_wp2_with fail
    (with_reducible refine (CNT.out).mono ?_)
    rintro e w3 ⟨rfl, k3⟩
    have b3 := k3.obj (fun e => e) B0.out
    have d0' : w3.cell? ⟨ga, gc + j * 2, none⟩ = some (.string ra) := cell_chg k3 (fun e => e) (cell_chg (chg_alloc (fun _ => False) w _) (fun e => e) d0)
    have d1' : w3.cell? ⟨ga, gc + j * 2 + 1, none⟩ = some (.string rb) := cell_chg k3 (fun e => e) (cell_chg (chg_alloc (fun _ => False) w _) (fun e => e) d1)
    have e0 : w3.cell? ⟨w.heap.size, 0, none⟩ = some (.int .i64 xa) := cell_of b3 rfl
    have e1 : w3.cell? ⟨w.heap.size, 1, none⟩ = some (.int .i64 (j : Int)) := cell_of b3 rfl
    have hsz3 : w.heap.size < w3.heap.size := by have := k3.size; simp at this; omega
    have K3 := Lib.hid (K2.out.trans k3)
    have hue : u.size = 2 * alen u.data.toList := by unfold alen; rw [size_list]; omega
    have hae : ra.size = 2 * alen ra.data.toList := by unfold alen; rw [size_list]; omega
    have q2 : ((ra.size : Int) / 2) = ((alen ra.data.toList : Nat) : Int) := by omega
    clear d0 d1 b3 k3 CNT
    have b4 := obj_alloc_new w3 (.cells #[.string ra, .string rb] 66)
    have K4 := Lib.hid (K3.out.alloc (.cells #[.string ra, .string rb] 66))
    have SUB := Lib.hid (rsub_any (w3.alloc (.cells #[.string ra, .string rb] 66)) u xa (alen ra.data.toList) (by omega) (by omega) (by omega) (by omega) hxa)
    have B4 := Lib.hid b4
    clear b4
    by_cases hok : SubOk u xa (alen ra.data.toList)
    ·rw [show subV u xa (alen ra.data.toList) = .tuple #[.string (bar ((u.data.toList.drop (2 * xa.toNat)).take (2 * alen ra.data.toList))), .int .i64 0] from if_pos hok] at SUB
     obtain ⟨hok1, hok2⟩ := hok
     obtain ⟨i, rfl⟩ : ∃ i : Nat, xa = i := ⟨xa.toNat, by omega⟩
     rw [Int.toNat_natCast] at SUB
     have hal : ra.data.toList.length = 2 * alen ra.data.toList := by rw [size_list]; exact hae
     by_cases hcut : (u.data.toList.drop (2 * i)).take (2 * alen ra.data.toList) = ra.data.toList
     ·have ST : stepI (R.map brul) u.data.toList ((i : Int), (j : Int)) = some (swapAt u.data.toList i (alen ra.data.toList) rb.data.toList) := by
       unfold stepI
       rw [if_pos]
       ·simp only [Int.toNat_natCast]; rw [US.out]
       ·refine ⟨by simp only; omega, by simp only [List.length_map]; omega, ?_, by simp only; omega, ?_, ?_⟩
        ·simp only [Int.toNat_natCast]; rw [RU.out]; exact HC.out
        ·simp only [Int.toNat_natCast]; rw [RU.out]; simp only [brul]; omega
        ·simp only [Int.toNat_natCast]; rw [RU.out]; simp only [brul]; rw [hal]; exact hcut
      rw [hcut] at SUB
      rw [bar_of] at SUB
      have RES := Lib.hid ST
      have SW := Lib.hid (fun w => rswap_ok w u rb i (alen ra.data.toList) (by omega) (by omega) (by omega) (by omega) (by omega) (by omega) (by omega) (by omega))
      have n1 : (ra.toList != ra.toList) = false := by simp
      clear hcut ST hal hue hae m3
      generalize alen ra.data.toList = M at *
      generalize swapAt u.data.toList i M rb.data.toList = uw at *
      go_wp2_with fail
      (with_reducible refine (SUB.out).mono ?_)
      rintro e w5 ⟨rfl, k5⟩
      have b5 := k5.obj (fun e => e) B4.out
      have f0 : w5.cell? ⟨w3.heap.size, 0, none⟩ = some (.string ra) := cell_of b5 rfl
      have f1 : w5.cell? ⟨w3.heap.size, 1, none⟩ = some (.string rb) := cell_of b5 rfl
      have f2 : w5.cell? ⟨w.heap.size, 0, none⟩ = some (.int .i64 (i : Int)) := cell_chg k5 (fun e => e) (cell_chg (chg_alloc (fun _ => False) w3 _) (fun e => e) e0)
      have K5 := Lib.hid (K4.out.trans k5)
      clear b5 k5 SUB e0 e1 d0' d1'
      go_wp2_with fail
      (with_reducible refine (SW.out _).mono ?_)
      rintro e w6 ⟨rfl, k6⟩
      go_wp2
      go_ret2
      exact ⟨by rw [RES.out]; rfl, K5.out.trans k6⟩
     ·have RES := Lib.hid (NP.out (fun q => hcut (by have := q.2.2; simp only [Int.toNat_natCast, brul] at this; rwa [hal] at this)))
      have n1 : ((bar ((u.data.toList.drop (2 * i)).take (2 * alen ra.data.toList))).toList != ra.toList) = true := by
       rw [bytes_ne, bar_list, decide_eq_false hcut]; rfl
      have n2 : ((bar ((u.data.toList.drop (2 * i)).take (2 * alen ra.data.toList))).toList == ra.toList) = false := by
       rw [bytes_eq, bar_list, decide_eq_false hcut]
      have n3 : ¬ (bar ((u.data.toList.drop (2 * i)).take (2 * alen ra.data.toList))).toList = ra.toList := by
       rw [beq_eq_false_iff_ne] at n2; exact n2
      clear hcut hal hue hae m3
      generalize alen ra.data.toList = M at *
      generalize bar ((u.data.toList.drop (2 * i)).take (2 * M)) = cu at *
      go_wp2_with fail
      (with_reducible refine (SUB.out).mono ?_)
      rintro e w5 ⟨rfl, k5⟩
      have b5 := k5.obj (fun e => e) B4.out
      have f0 : w5.cell? ⟨w3.heap.size, 0, none⟩ = some (.string ra) := cell_of b5 rfl
      have K5 := Lib.hid (K4.out.trans k5)
      clear b5 k5 SUB e0 e1 d0' d1'
      go_wp2
      go_ret2
      exact ⟨by rw [RES.out]; rfl, K5.out⟩
    ·rw [show subV u xa (alen ra.data.toList) = .tuple #[.string ⟨#[]⟩, .int .i64 5] from if_neg hok] at SUB
     have RES := Lib.hid (NP.out (fun q => hok ⟨q.1, by have := q.2.1; simp only [brul] at this; exact this⟩))
     clear hok hue hae m3
     generalize alen ra.data.toList = M at *
     go_wp2_with fail
     (with_reducible refine (SUB.out).mono ?_)
     rintro e w5 ⟨rfl, k5⟩
     have K5 := Lib.hid (K4.out.trans k5)
     go_wp2
     go_ret2
     exact ⟨by rw [RES.out]; rfl, K5.out⟩
end Go.Proofs.YthdfplafihmejaaGreat

namespace Go.Proofs.YthdfplafihmejaaGreat

theorem hereUp_succ (l : List Wd) (w : Wd) (a i : Nat) : hereUp l w a (i + 1) = hereUp l w a i ++ if standsB (l.getD i []) w a then [i] else [] := by
 unfold hereUp
 rw [List.range_succ, List.filter_append]
 by_cases h : standsB (l.getD i []) w a = true
 ·rw [if_pos h]; simp only [List.filter_cons, h, if_true, List.filter_nil]
 ·rw [if_neg h]; simp only [List.filter_cons, if_neg h, List.filter_nil]
theorem pre_zero (R : List Rul) (u : Wd) : stepsPre R u 0 0 = [] := rfl
theorem pre_next (R : List Rul) (u : Wd) (a : Nat) : stepsPre R u a R.length = stepsPre R u (a + 1) 0 := by
 unfold stepsPre
 have : hereUp (froms R) u a R.length = hereL (froms R) u a := by unfold hereUp hereL; rw [froms_length]
 rw [this]
 congr 1
 unfold hitsTo
 rw [List.range_succ, List.flatMap_append]
 simp [hereUp]
theorem pre_end (R : List Rul) (u : Wd) : stepsPre R u (alen u) 0 = stepsOf R u := by
 unfold stepsPre stepsOf hits
 simp [hereUp]
theorem stands_step {R : List Rul} {u : Wd} {a k : Nat} (hk : k < R.length) (ha : a < alen u) : standsB ((froms R).getD k []) u a = true ↔ StepI R u ((a : Int), (k : Int)) := by
 rw [step_hits]
 unfold hits
 rw [hitsTo_mem, froms_length]
 exact ⟨fun h => ⟨ha, hk, h⟩, fun h => h.2.2⟩
theorem pre_yes {R : List Rul} {u v : Wd} {a k : Nat} (hk : k < R.length) (ha : a < alen u) (h : stepI R u ((a : Int), (k : Int)) = some v) : stepsPre R u a (k + 1) = stepsPre R u a k ++ [((a, k), v)] := by
 unfold stepI at h
 split at h
 ·rename_i hs
  cases h
  unfold stepsPre
  rw [hereUp_succ, if_pos ((stands_step hk ha).2 hs)]
  simp
 ·cases h
theorem pre_no {R : List Rul} {u : Wd} {a k : Nat} (hk : k < R.length) (ha : a < alen u) (h : stepI R u ((a : Int), (k : Int)) = none) : stepsPre R u a (k + 1) = stepsPre R u a k := by
 unfold stepI at h
 split at h
 ·cases h
 ·rename_i hs
  unfold stepsPre
  rw [hereUp_succ, if_neg (fun q => hs ((stands_step hk ha).1 q))]
  simp
theorem innerR_one (b i : Nat) (s : Nat × Nat) (v : Wd) (r : List Ent) : innerR b i [(s, v)] r = if v ∈ wordsR r then some r else if r.length = b then none else some (r ++ [(v, ((i : Int), s))]) := by
 simp only [innerR]
theorem rowPre_yes {R : List Rul} {b i : Nat} {r r' : List Ent} {u v : Wd} {a k : Nat} (hk : k < R.length) (ha : a < alen u) (h : stepI R u ((a : Int), (k : Int)) = some v) (hr : rowPre R b i r u a k = some r') : rowPre R b i r u a (k + 1) = if v ∈ wordsR r' then some r' else if r'.length = b then none else some (r' ++ [(v, ((i : Int), (a, k)))]) := by
 unfold rowPre at hr ⊢
 rw [pre_yes hk ha h, innerR_append, hr, Option.bind_some, innerR_one]
theorem rowPre_no {R : List Rul} {b i : Nat} {r : List Ent} {u : Wd} {a k : Nat} (hk : k < R.length) (ha : a < alen u) (h : stepI R u ((a : Int), (k : Int)) = none) : rowPre R b i r u a (k + 1) = rowPre R b i r u a k := by
 unfold rowPre
 rw [pre_no hk ha h]
theorem rowPre_next (R : List Rul) (b i : Nat) (r : List Ent) (u : Wd) (a : Nat) : rowPre R b i r u a R.length = rowPre R b i r u (a + 1) 0 := by unfold rowPre; rw [pre_next]
theorem rowPre_end (R : List Rul) (b i : Nat) (r : List Ent) (u : Wd) : rowPre R b i r u (alen u) 0 = innerR b i (stepsOf R u) r := by unfold rowPre; rw [pre_end]
theorem rowPre_zero (R : List Rul) (b i : Nat) (r : List Ent) (u : Wd) : rowPre R b i r u 0 0 = some r := rfl
/-- Once over, over. -/
theorem pre_prefix (R : List Rul) (u : Wd) {a k : Nat} (ha : a < alen u) (hk : k ≤ R.length) : stepsPre R u a k <+: stepsOf R u := by
 unfold stepsPre stepsOf hits
 refine List.IsPrefix.map _ ?_
 have h1 : hitsTo (froms R) u a ++ (hereUp (froms R) u a k).map (fun t => (a, t)) <+: hitsTo (froms R) u (a + 1) := by
  unfold hitsTo
  rw [List.range_succ, List.flatMap_append]
  refine (List.prefix_append_right_inj _).2 ?_
  rw [List.flatMap_singleton]
  refine List.IsPrefix.map _ ?_
  unfold hereUp hereL
  rw [froms_length]
  refine List.IsPrefix.filter _ ?_
  rw [List.prefix_iff_eq_take, List.take_range, List.length_range]
  congr 1
  omega
 refine h1.trans ?_
 obtain ⟨d, hd⟩ : ∃ d, alen u = a + 1 + d := ⟨alen u - (a + 1), by omega⟩
 rw [hd]
 unfold hitsTo
 rw [show List.range (a + 1 + d) = List.range (a + 1) ++ (List.range d).map (a + 1 + ·) from List.range_add .., List.flatMap_append]
 exact List.prefix_append _ _
end Go.Proofs.YthdfplafihmejaaGreat

namespace Go.Proofs.YthdfplafihmejaaGreat
open Go.RowKit Go.Maps

theorem rfCells_append (r : List Ent) (e : Ent) : rfCells (r ++ [e]) = rfCells r ++ [.int .i64 e.2.1] := by unfold rfCells; rw [List.map_append]; rfl
theorem rsCells_append (r : List Ent) (e : Ent) : rsCells (r ++ [e]) = rsCells r ++ [.int .i64 (e.2.2.1 : Int), .int .i64 (e.2.2.2 : Int)] := by unfold rsCells; rw [List.map_append, hcells_append]; rfl
theorem own_ty2 {w : World} {base base' : Nat} {e t : TypeId} {size size' n n' k : Nat} {xs xs' : List Value} {v v' : Value} (h : w.ownsRow base e size v n xs) (h' : w.ownsRow base' t size' v' n' xs') (hk : v.ownBlock = some k) (hk' : v'.ownBlock = some k) : t = e := by
 obtain ⟨cs', h2⟩ := own_cells h' hk'
 exact own_ty h hk h2
section
variable {w w' : World} {base b : Nat} {lv fv bv v : Value} {r1 r2 r3 : List Ent}
theorem FRow.chg {S : Nat → Prop} (h : FRow w base b lv fv bv r1 r2 r3) (hc : Chg S w w') (hs : ∀ k, base ≤ k → ¬ S k) : FRow w' base b lv fv bv r1 r2 r3 :=
 ⟨hc.obj (hs b h.bb) h.hb, own_chg h.hl hc (fun k hk => hs k (h.hl.lt k hk).1), own_chg h.hf hc (fun k hk => hs k (h.hf.lt k hk).1), own_chg h.hs hc (fun k hk => hs k (h.hs.lt k hk).1), h.bb⟩
theorem FRow.stepL {e : Ent} (h : FRow w base b lv fv bv r1 r2 r3) (hg : w.grownBy w' lv.ownBlock) (ho : w'.ownsRow base 57 1 v (r1.length + 1) (rwCells r1 ++ [.string (bar e.1)])) : FRow (w'.setCell ⟨b, 0, none⟩ v) base b v fv bv (r1 ++ [e]) r2 r3 := by
 have hb' := (Chg.of_grown hg).obj (fun q => by have := own_ty h.hl q h.hb; cases this) h.hb
 have hc : Chg (· = b) w' (w'.setCell ⟨b, 0, none⟩ v) := (Chg.refl (· = b) w').setCell (p := ⟨b, 0, none⟩) (fun _ => rfl) v
 refine ⟨obj_setCell hb' v, ?_, ?_, ?_, h.bb⟩
 ·rw [List.length_append, List.length_singleton, rwCells_append]
  exact own_chg ho hc (fun k hk q => by subst q; have := own_ty ho hk hb'; cases this)
 ·have := own_chg h.hf (Chg.of_grown hg) (fun k hk q => by have := own_ty2 h.hl h.hf q hk; cases this)
  exact own_chg this hc (fun k hk q => by subst q; have := own_ty this hk hb'; cases this)
 ·have := own_chg h.hs (Chg.of_grown hg) (fun k hk q => by have := own_ty2 h.hl h.hs q hk; cases this)
  exact own_chg this hc (fun k hk q => by subst q; have := own_ty this hk hb'; cases this)
theorem FRow.stepF {e : Ent} (h : FRow w base b lv fv bv r1 r2 r3) (hg : w.grownBy w' fv.ownBlock) (ho : w'.ownsRow base 3 1 v (r2.length + 1) (rfCells r2 ++ [.int .i64 e.2.1])) : FRow (w'.setCell ⟨b, 1, none⟩ v) base b lv v bv r1 (r2 ++ [e]) r3 := by
 have hb' := (Chg.of_grown hg).obj (fun q => by have := own_ty h.hf q h.hb; cases this) h.hb
 have hc : Chg (· = b) w' (w'.setCell ⟨b, 1, none⟩ v) := (Chg.refl (· = b) w').setCell (p := ⟨b, 1, none⟩) (fun _ => rfl) v
 refine ⟨obj_setCell hb' v, ?_, ?_, ?_, h.bb⟩
 ·have := own_chg h.hl (Chg.of_grown hg) (fun k hk q => by have := own_ty2 h.hf h.hl q hk; cases this)
  exact own_chg this hc (fun k hk q => by subst q; have := own_ty this hk hb'; cases this)
 ·rw [List.length_append, List.length_singleton, rfCells_append]
  exact own_chg ho hc (fun k hk q => by subst q; have := own_ty ho hk hb'; cases this)
 ·have := own_chg h.hs (Chg.of_grown hg) (fun k hk q => by have := own_ty2 h.hf h.hs q hk; cases this)
  exact own_chg this hc (fun k hk q => by subst q; have := own_ty this hk hb'; cases this)
theorem FRow.stepS {e : Ent} (h : FRow w base b lv fv bv r1 r2 r3) (hg : w.grownBy w' bv.ownBlock) (ho : w'.ownsRow base 153 2 v (r3.length + 1) (rsCells r3 ++ [.int .i64 (e.2.2.1 : Int), .int .i64 (e.2.2.2 : Int)])) : FRow (w'.setCell ⟨b, 2, none⟩ v) base b lv fv v r1 r2 (r3 ++ [e]) := by
 have hb' := (Chg.of_grown hg).obj (fun q => by have := own_ty h.hs q h.hb; cases this) h.hb
 have hc : Chg (· = b) w' (w'.setCell ⟨b, 2, none⟩ v) := (Chg.refl (· = b) w').setCell (p := ⟨b, 2, none⟩) (fun _ => rfl) v
 refine ⟨obj_setCell hb' v, ?_, ?_, ?_, h.bb⟩
 ·have := own_chg h.hl (Chg.of_grown hg) (fun k hk q => by have := own_ty2 h.hs h.hl q hk; cases this)
  exact own_chg this hc (fun k hk q => by subst q; have := own_ty this hk hb'; cases this)
 ·have := own_chg h.hf (Chg.of_grown hg) (fun k hk q => by have := own_ty2 h.hs h.hf q hk; cases this)
  exact own_chg this hc (fun k hk q => by subst q; have := own_ty this hk hb'; cases this)
 ·rw [List.length_append, List.length_singleton, rsCells_append]
  exact own_chg ho hc (fun k hk q => by subst q; have := own_ty ho hk hb'; cases this)
end
theorem rw_get {r : List Ent} {i : Nat} (hi : i < r.length) : (rwCells r)[i]? = some (.string (bar (wordAt r i))) := by
 unfold rwCells wordAt
 rw [List.getElem?_map, List.getD_eq_getElem?_getD, List.getElem?_eq_getElem hi]; rfl
theorem frow_word {w : World} {base b : Nat} {a : Option Addr} {n c : Nat} {fv bv : Value} {r r2 r3 : List Ent} (h : FRow w base b (.slice a n c) fv bv r r2 r3) {i : Nat} (hi : i < r.length) : ∃ g, a = some ⟨g, 0, none⟩ ∧ w.cell? ⟨g, i, none⟩ = some (.string (bar (wordAt r i))) := by
 have ho := h.hl
 obtain ⟨a', c', e⟩ := own_shape ho
 cases e
 obtain ⟨g, rfl⟩ := own_some ho (by omega)
 exact ⟨g, rfl, by rw [ho.cellAt i (by omega), rw_get hi]⟩
theorem idx_first {r : List Ent} {u : Wd} {k : Nat} (hk : k < r.length) (h : wordAt r k = u) (hn : ∀ j, j < k → wordAt r j ≠ u) : u ∈ wordsR r ∧ (wordsR r).idxOf u = k := by
 have hm : u ∈ wordsR r := h ▸ wordAt_mem hk
 refine ⟨hm, ?_⟩
 have hl : (wordsR r).idxOf u < (wordsR r).length := List.idxOf_lt_length_of_mem hm
 have hg : ∀ j, j < r.length → (wordsR r)[j]? = some (wordAt r j) := fun j hj => by
  unfold wordsR wordAt
  rw [List.getElem?_map, List.getD_eq_getElem?_getD, List.getElem?_eq_getElem hj]; rfl
 have he : wordAt r ((wordsR r).idxOf u) = u := by
  have h1 := hg _ (by rw [← wordsR_length]; exact hl)
  rw [List.getElem?_eq_getElem hl, List.getElem_idxOf hl] at h1
  exact (Option.some.inj h1).symm
 rcases Nat.lt_trichotomy ((wordsR r).idxOf u) k with q | q | q
 ·exact absurd he (hn _ q)
 ·exact q
 ·have h2 : (wordsR r)[k]'(by rw [wordsR_length]; exact hk) = u := by
   have := hg k hk
   rw [List.getElem?_eq_getElem (by rw [wordsR_length]; exact hk)] at this
   rw [Option.some.inj this, h]
  have := List.not_of_lt_findIdx (xs := wordsR r) (p := (· == u)) (i := k) q
  simp at this
  exact absurd h2 this
set_option maxRecDepth 100000 in
theorem rplace_any (w : World) (base b : Nat) (lv fv bv : Value) (r r2 r3 : List Ent) (u : ByteArray) (h : FRow w base b lv fv bv r r2 r3) (hr : r.length ≤ 100000) :
  Calls Tryz.prog 67 #[.pointer (some ⟨b, 0, none⟩), .string u] w fun e w' => e = .returned (.int .i64 (placeI r u.data.toList)) ∧ w = w' := by
 obtain ⟨la, lc, rfl⟩ := own_shape h.hl
 have c0 : w.cell? ⟨b, 0, none⟩ = some (.slice la r.length lc) := cell_of h.hb rfl
 have H := Lib.hid h
 have FIR := Lib.hid (fun k hk h hn => @idx_first r u.data.toList k hk h hn)
 clear h
 go_enter Tryz.func67, Tryz.ntmps67
 go_wp2
 go_loop [5] (fun iv => ∃ k : Nat, k ≤ r.length ∧ iv = .int .i64 k ∧ Hid (∀ j, j < k → wordAt r j ≠ u.data.toList)) (fun iv => r.length - (intOf iv).toNat)
 case atStart => exact ⟨0, by omega, rfl, Lib.hid (fun j hj => by omega)⟩
 case round =>
  obtain ⟨k, hk, rfl, HN⟩ := hrel
  by_cases hlt : k < r.length
  ·obtain ⟨g, rfl, cx⟩ := frow_word H.out hlt
   by_cases he : wordAt r k = u.data.toList
   ·have RES := Lib.hid (show placeI r u.data.toList = (k : Int) by
     obtain ⟨q1, q2⟩ := FIR.out k hlt he HN.out
     unfold placeI
     rw [if_pos q1, q2])
    rw [he, bar_of] at cx
    have n1 : (u.toList == u.toList) = true := by simp
    clear he
    go_wp2
    go_ret
    exact ⟨by rw [RES.out]; rfl, rfl⟩
   ·have n1 : ((bar (wordAt r k)).toList == u.toList) = false := by rw [bytes_eq, bar_list, decide_eq_false he]
    have HN2 := Lib.hid (show ∀ j, j < k + 1 → wordAt r j ≠ u.data.toList from fun j hj => by
     rcases Nat.lt_or_ge j k with q | q
     ·exact HN.out j q
     ·obtain rfl : j = k := by omega
      exact he)
    clear he
    generalize bar (wordAt r k) = x at *
    go_wp2
    go_round
    case rel => exact ⟨k + 1, by omega, by go_num, HN2⟩
    case measure => simp [intOf]; omega
  ·obtain rfl : k = r.length := by omega
   have RES := Lib.hid (show placeI r u.data.toList = -1 by
    unfold placeI
    rw [if_neg]
    intro hm
    obtain ⟨i, hi, e⟩ := mem_wordAt hm
    exact HN.out i hi e)
   go_wp2
   go_ret
   exact ⟨by rw [RES.out]; rfl, rfl⟩
end Go.Proofs.YthdfplafihmejaaGreat

namespace Go.Proofs.YthdfplafihmejaaGreat
open Go.RowKit Go.Maps

theorem FIn.facts {w W : World} {R : List Rul} {s : Wd} {bnd b i a k : Nat} {r0 r : List Ent} {W0 : World} (h : FIn w R bnd b i r0 a k r W) (h0 : FOut w R s bnd b i r0 W0) (hi : i < r0.length) : r.length ≤ bnd ∧ i < r.length ∧ wordAt r i = wordAt r0 i := by
 obtain ⟨q1, q2, ⟨t, rfl⟩, _, _⟩ := innerR_some h.pre h0.nd h0.len
 exact ⟨q2, by rw [List.length_append]; omega, wordAt_append t hi⟩
theorem FOut.next {w W W0 : World} {R : List Rul} {s : Wd} {bnd b i : Nat} {r0 r : List Ent} (h0 : FOut w R s bnd b i r0 W0) (hi : i < r0.length) (h : FIn w R bnd b i r0 (alen (wordAt r0 i)) 0 r W) : FOut w R s bnd b (i + 1) r W := by
 have hp := h.pre
 rw [rowPre_end] at hp
 obtain ⟨q1, q2, ⟨t, rfl⟩, q4, _⟩ := innerR_some hp h0.nd h0.len
 have h1 := h0.len
 refine ⟨h.row, ?_, by omega, q2, q1, fun u hu => ?_, h.chg⟩
 ·rw [h0.goes, show bnd - i = (bnd - (i + 1)) + 1 by omega, outerR, if_pos hi, hp]; rfl
 ·rcases q4 u hu with q | q
  ·exact h0.may u q
  ·exact (step_may (h0.may _ (wordAt_mem hi)) q).1
theorem FOut.over {w W0 : World} {R : List Rul} {s : Wd} {bnd b i a k : Nat} {r0 : List Ent} (h0 : FOut w R s bnd b i r0 W0) (hi : i < r0.length) (ha : a < alen (wordAt r0 i)) (hk : k ≤ R.length) (h : rowPre R bnd i r0 (wordAt r0 i) a k = none) : rowOf R s bnd = none := by
 have hn := inner_prefix_none (pre_prefix R (wordAt r0 i) ha hk) h
 have h1 := h0.len
 rw [h0.goes, show bnd - i = (bnd - (i + 1)) + 1 by omega, outerR, if_pos hi, hn]; rfl
theorem FOut.done {w W0 : World} {R : List Rul} {s : Wd} {bnd b i : Nat} {r0 : List Ent} (h0 : FOut w R s bnd b i r0 W0) (hi : ¬ i < r0.length) : rowOf R s bnd = some r0 := by
 rw [h0.goes]
 cases hf : bnd - i with
 | zero => rfl
 | succ f => rw [outerR, if_neg hi]
set_option maxRecDepth 100000 in
theorem rfind_bad (w : World) (la : Option Addr) (n cap : Nat) (s : ByteArray) (b : Int) (hs : s.size ≤ 140737488355328) (hn : n ≤ maxLen) (h : askErr (mayB s.data.toList) b n ≠ 0) :
  Calls Tryz.prog 48 #[.slice la n cap, .string s, .int .i64 b] w (FindBad w (askErr (mayB s.data.toList) b n)) := by
 have MAY := Lib.hid (rmay_any w s hs)
 generalize hk : askErr (mayB s.data.toList) b n = k at *
 have HK := Lib.hid hk
 have H := Lib.hid h
 clear h hk
 unfold maxLen at hn
 cases hm : mayB s.data.toList with
 | false =>
  rw [hm] at MAY HK
  obtain rfl : k = 2 := HK.out.symm
  clear hm
  go_enter Tryz.func48, Tryz.ntmps48
  go_wp2_with fail
  (with_reducible refine (MAY.out).mono ?_)
  rintro e w1 ⟨rfl, k1⟩
  go_wp2
  go_ret2
  exact ⟨rfl, k1⟩
 | true =>
  rw [hm] at MAY HK
  clear hm
  by_cases h1 : b < 1
  ·have g1 : decide (b < 1) = true := by rw [decide_eq_true_iff]; exact h1
   obtain rfl : k = 1 := by rw [← HK.out]; simp [askErr, h1]
   clear h1
   go_enter Tryz.func48, Tryz.ntmps48
   go_wp2_with fail
   (with_reducible refine (MAY.out).mono ?_)
   rintro e w1 ⟨rfl, k1⟩
   go_wp2
   go_ret2
   exact ⟨rfl, k1⟩
  ·have g1 : decide (b < 1) = false := by rw [decide_eq_false_iff_not]; exact h1
   by_cases h2 : 5000 < b
   ·have g2 : decide (5000 < b) = true := by rw [decide_eq_true_iff]; exact h2
    obtain rfl : k = 1 := by rw [← HK.out]; simp [askErr, h2]
    clear h1 h2
    go_enter Tryz.func48, Tryz.ntmps48
    go_wp2_with fail
    (with_reducible refine (MAY.out).mono ?_)
    rintro e w1 ⟨rfl, k1⟩
    go_wp2
    go_ret2
    exact ⟨rfl, k1⟩
   ·have g2 : decide (5000 < b) = false := by rw [decide_eq_false_iff_not]; exact h2
    have h3 : 400 < n := by
     by_cases h3 : 400 < n
     ·exact h3
     ·exact absurd (by rw [← HK.out]; simp [askErr, h1, h2, h3]) H.out
    have g3 : decide (400 < n) = true := by rw [decide_eq_true_iff]; exact h3
    have g4 : decide ((400 : Int) < (n : Int)) = true := by rw [decide_eq_true_iff]; omega
    obtain rfl : k = 3 := by rw [← HK.out]; simp [askErr, h1, h2, h3]
    clear h1 h2
    go_enter Tryz.func48, Tryz.ntmps48
    go_wp2_with fail
    (with_reducible refine (MAY.out).mono ?_)
    rintro e w1 ⟨rfl, k1⟩
    go_wp2
    go_ret2
    exact ⟨rfl, k1⟩
theorem rowF_start (w : World) (base : Nat) (s : ByteArray) (hb : base ≤ w.heap.size) : FRow ((((w.alloc (.cells #[.string s] 57)).alloc (.cells #[.int .i64 (-1)] 3)).alloc (.cells #[.int .i64 0, .int .i64 0] 153)).alloc (.cells #[.slice (some ⟨w.heap.size, 0, none⟩) 1 1, .slice (some ⟨w.heap.size + 1, 0, none⟩) 1 1, .slice (some ⟨w.heap.size + 1 + 1, 0, none⟩) 1 1] 111)) base (w.heap.size + 1 + 1 + 1) (.slice (some ⟨w.heap.size, 0, none⟩) 1 1) (.slice (some ⟨w.heap.size + 1, 0, none⟩) 1 1) (.slice (some ⟨w.heap.size + 1 + 1, 0, none⟩) 1 1) (startR s.data.toList) (startR s.data.toList) (startR s.data.toList) := by
 have e0 : (w.alloc (.cells #[.string s] 57)).heap.size = w.heap.size + 1 := by simp
 have e1 : ((w.alloc (.cells #[.string s] 57)).alloc (.cells #[.int .i64 (-1)] 3)).heap.size = w.heap.size + 1 + 1 := by simp
 have e2 : (((w.alloc (.cells #[.string s] 57)).alloc (.cells #[.int .i64 (-1)] 3)).alloc (.cells #[.int .i64 0, .int .i64 0] 153)).heap.size = w.heap.size + 1 + 1 + 1 := by simp
 refine ⟨?_, ?_, ?_, ?_, by omega⟩
 ·have := obj_alloc_new (((w.alloc (.cells #[.string s] 57)).alloc (.cells #[.int .i64 (-1)] 3)).alloc (.cells #[.int .i64 0, .int .i64 0] 153)) (.cells #[.slice (some ⟨w.heap.size, 0, none⟩) 1 1, .slice (some ⟨w.heap.size + 1, 0, none⟩) 1 1, .slice (some ⟨w.heap.size + 1 + 1, 0, none⟩) 1 1] 111)
  rw [e2] at this
  exact this
 ·have := World.ownsRow_lit (base := base) (e := 57) (size := 1) w #[.string s] 1 hb (by unfold maxLen; omega) rfl
  have h2 : rwCells (startR s.data.toList) = [.string s] := by simp [rwCells, startR, bar_of]
  rw [h2]
  exact ((this.alloc _).alloc _).alloc _
 ·have := World.ownsRow_lit (base := base) (e := 3) (size := 1) (w.alloc (.cells #[.string s] 57)) #[.int .i64 (-1)] 1 (by omega) (by unfold maxLen; omega) rfl
  rw [e0] at this
  exact (this.alloc _).alloc _
 ·have := World.ownsRow_lit (base := base) (e := 153) (size := 2) ((w.alloc (.cells #[.string s] 57)).alloc (.cells #[.int .i64 (-1)] 3)) #[.int .i64 0, .int .i64 0] 1 (by omega) (by unfold maxLen; omega) rfl
  rw [e1] at this
  exact this.alloc _
theorem useV_shape (o : Option Wd) : ∃ ux ox, useV o = .tuple #[.string ux, .bool ox] := by
 cases o <;> exact ⟨_, _, rfl⟩
set_option maxHeartbeats 4000000 in
set_option maxRecDepth 100000 in
theorem rfind_row (w : World) (v : Value) (R : List BRul) (s : ByteArray) (bnd : Nat) (hv : RulesAt w v (· < w.heap.size) R) (h47 : Fit47 R) (hR : R.length ≤ 400) (hmay : mayB s.data.toList = true) (h1 : 1 ≤ bnd) (h2 : bnd ≤ 5000) :
  Calls Tryz.prog 48 #[v, .string s, .int .i64 (bnd : Int)] w (FindRes w (rowOf (R.map brul) s.data.toList bnd)) := by
 have HV := Lib.hid hv
 have H47 := Lib.hid h47
 obtain ⟨la, cap, rfl, hl0, _⟩ := hv
 have hs8 := may_size hmay
 have MAY := Lib.hid (rmay_any w s (by omega))
 rw [hmay] at MAY
 have HMAY := Lib.hid hmay
 clear hmay h47
 have g1 : decide ((bnd : Int) < 1) = false := by rw [decide_eq_false_iff_not]; omega
 have g2 : decide ((5000 : Int) < (bnd : Int)) = false := by rw [decide_eq_false_iff_not]; omega
 have g3 : decide (400 < R.length) = false := by rw [decide_eq_false_iff_not]; omega
 have g4 : decide ((400 : Int) < (R.length : Int)) = false := by rw [decide_eq_false_iff_not]; omega
 go_enter Tryz.func48, Tryz.ntmps48
 go_wp2_with fail
 (with_reducible refine (MAY.out).mono ?_)
 rintro e w1 ⟨rfl, k1⟩
 have K1 := Lib.hid k1
 clear k1 MAY
 go_wp2
 have r2 := rowF_start w1 w.heap.size s K1.out.size
 have k2 := ((((chg_alloc (fun _ => False) w1 (.cells #[.string s] 57)).alloc (.cells #[.int .i64 (-1)] 3)).alloc (.cells #[.int .i64 0, .int .i64 0] 153)).alloc (.cells #[.slice (some ⟨w1.heap.size, 0, none⟩) 1 1, .slice (some ⟨w1.heap.size + 1, 0, none⟩) 1 1, .slice (some ⟨w1.heap.size + 1 + 1, 0, none⟩) 1 1] 111))
 have R2 := Lib.hid r2
 have K2 := Lib.hid (K1.out.trans k2)
 clear r2 k2
 generalize (((w1.alloc (.cells #[.string s] 57)).alloc (.cells #[.int .i64 (-1)] 3)).alloc (.cells #[.int .i64 0, .int .i64 0] 153)).alloc (.cells #[.slice (some ⟨w1.heap.size, 0, none⟩) 1 1, .slice (some ⟨w1.heap.size + 1, 0, none⟩) 1 1, .slice (some ⟨w1.heap.size + 1 + 1, 0, none⟩) 1 1] 111) = w2 at *
 generalize w1.heap.size + 1 + 1 + 1 = bb at *
 go_loopw [9] (fun iv wr => ∃ (i : Nat) (r : List Ent), iv = .int .i64 i ∧ Hid (FOut w (R.map brul) s.data.toList bnd bb i r wr)) (fun iv _ => bnd + 1 - (intOf iv).toNat)
 case atStart =>
  refine ⟨0, startR s.data.toList, rfl, Lib.hid ⟨⟨_, _, _, R2.out⟩, rfl, by omega, by simpa [startR] using h1, by simp [startR, wordsR], fun u hu => ?_, K2.out⟩⟩
  simp [startR, wordsR] at hu
  subst hu
  exact HMAY.out
 case round =>
  obtain ⟨i, r0, rfl, HO⟩ := hrel
  obtain ⟨lv0, fv0, bv0, hrow⟩ := HO.out.row
  obtain ⟨la0, lc0, rfl⟩ := own_shape hrow.hl
  have c0 : wr.cell? ⟨bb, 0, none⟩ = some (.slice la0 r0.length lc0) := cell_of hrow.hb rfl
  have hile := HO.out.le
  have hlen := HO.out.len
  by_cases hi : i < r0.length
  ·go_wp2
   obtain ⟨w0, hw0⟩ : ∃ w0, w0 = wr := ⟨_, rfl⟩
   have HO0 := Lib.hid (show FOut w (R.map brul) s.data.toList bnd bb i r0 w0 by rw [hw0]; exact HO.out)
   have hmu := HO.out.may _ (wordAt_mem hi)
   have ROW := Lib.hid hrow
   have hub : (bar (wordAt r0 i)).size = 2 * alen (wordAt r0 i) := by
    have := may_size (a := bar (wordAt r0 i)) (by rw [bar_list]; exact hmu)
    have e := size_list (bar (wordAt r0 i))
    rw [bar_list] at e
    unfold alen; omega
   have hul : alen (wordAt r0 i) ≤ 8 := ((mayB_iff _).1 hmu).2.2.1
   have q2 : (((bar (wordAt r0 i)).size : Int) / 2) = ((alen (wordAt r0 i) : Nat) : Int) := by omega
   have HMU := Lib.hid hmu
   have HUB := Lib.hid hub
   clear hmu hub hw0 hrow
   go_loopw [10] (fun av wr => ∃ (a : Nat) (r : List Ent), av = .int .i64 a ∧ a ≤ alen (wordAt r0 i) ∧ Hid (FIn w (R.map brul) bnd bb i r0 a 0 r wr)) (fun av _ => 9 - (intOf av).toNat)
   case atStart => exact ⟨0, r0, rfl, by omega, Lib.hid ⟨HO.out.row, rowPre_zero _ _ _ _ _, HO.out.chg⟩⟩
   case round =>
    obtain ⟨a, r1, rfl, hale, HA⟩ := hrel
    obtain ⟨f1, f2, f3⟩ := HA.out.facts HO0.out hi
    obtain ⟨lv1, fv1, bv1, hrow1⟩ := HA.out.row
    obtain ⟨la1, lc1, rfl⟩ := own_shape hrow1.hl
    obtain ⟨gl1, rfl, cw1⟩ := frow_word hrow1 f2
    rw [f3] at cw1
    have cb1 : wr.cell? ⟨bb, 0, none⟩ = some (.slice (some ⟨gl1, 0, none⟩) r1.length lc1) := cell_of hrow1.hb rfl
    clear hrow1 c0
    by_cases ha : a < alen (wordAt r0 i)
    ·go_wp2
     clear cw1 cb1
     go_loopw [11] (fun kv wr => ∃ (k : Nat) (r : List Ent), kv = .int .i64 k ∧ k ≤ R.length ∧ Hid (FIn w (R.map brul) bnd bb i r0 a k r wr)) (fun kv _ => R.length - (intOf kv).toNat)
     case atStart => exact ⟨0, r1, rfl, by omega, HA⟩
     case round =>
      obtain ⟨k, r, rfl, hkle, HK⟩ := hrel
      by_cases hk : k < R.length
      ·obtain ⟨e1, e2, e3⟩ := HK.out.facts HO0.out hi
       obtain ⟨lv, fv, bv, hrow⟩ := HK.out.row
       obtain ⟨laa, lac, rfl⟩ := own_shape hrow.hl
       obtain ⟨lfa, lfc, rfl⟩ := own_shape hrow.hf
       obtain ⟨lba, lbc, rfl⟩ := own_shape hrow.hs
       obtain ⟨gl, rfl, _⟩ := frow_word hrow e2
       have ka := chg_alloc (fun _ => False) wr (.cells #[.int .i64 (a : Int), .int .i64 (k : Int)] 153)
       have oa := obj_alloc_new wr (.cells #[.int .i64 (a : Int), .int .i64 (k : Int)] 153)
       have KA := Lib.hid (HK.out.chg.trans ka)
       have ra := FRow.chg hrow ka (fun _ _ e => e)
       have hgw : wr.heap.size < (wr.alloc (.cells #[.int .i64 (a : Int), .int .i64 (k : Int)] 153)).heap.size := by simp
       have PRE := Lib.hid HK.out.pre
       have hbase : w.heap.size ≤ wr.heap.size := HK.out.chg.size
       have LT := Lib.hid (And.intro (fun x hx => (hrow.hl.lt x hx).2) (And.intro (fun x hx => (hrow.hf.lt x hx).2) (And.intro (fun x hx => (hrow.hs.lt x hx).2) (lt_of_obj hrow.hb))))
       clear hrow ka
       go_wp2_with fail
       generalize wr.alloc (.cells #[.int .i64 (a : Int), .int .i64 (k : Int)] 153) = wa at *
       obtain ⟨gl', egl, cw⟩ := frow_word ra e2
       cases egl
       rw [e3] at cw
       have cb : wa.cell? ⟨bb, 0, none⟩ = some (.slice (some ⟨gl, 0, none⟩) r.length lac) := cell_of ra.hb rfl
       have s0 : wa.cell? ⟨wr.heap.size, 0, none⟩ = some (.int .i64 (a : Int)) := cell_of oa rfl
       have s1 : wa.cell? ⟨wr.heap.size, 1, none⟩ = some (.int .i64 (k : Int)) := cell_of oa rfl
       have RA := Lib.hid ra
       have OA := Lib.hid oa
       have USE := Lib.hid (ruse_any wa.drew _ R (bar (wordAt r0 i)) (a : Int) (k : Int) (rules_up HV.out (KA.out.drew)) H47.out (by rw [bar_list]; exact HMU.out) (by omega))
       rw [bar_list] at USE
       obtain ⟨ux, ox, hux⟩ := useV_shape (stepI (R.map brul) (wordAt r0 i) ((a : Int), (k : Int)))
       rw [hux] at USE
       have HUX := Lib.hid hux
       clear ra oa hux
       refine wp_region_plan (N := 124) [.rd [0, 1, 2, 3, 4, 5, 6, 7, 8], .ef 9, .rd [10, 11, 12, 13, 14]] (fun w' => w'.cell? ⟨bb, 0, none⟩ = some (.slice (some ⟨gl, 0, none⟩) r.length lac) ∧ w'.cell? ⟨gl, i, none⟩ = some (.string (bar (wordAt r0 i))) ∧ w'.cell? ⟨wr.heap.size, 0, none⟩ = some (.int .i64 (a : Int)) ∧ w'.cell? ⟨wr.heap.size, 1, none⟩ = some (.int .i64 (k : Int))) (by kernel_rfl) (by kernel_rfl) (by kernel_rfl) (by kernel_rfl) (Nat.le_of_ble_eq_true rfl) ⟨cb, cw, s0, s1⟩ ?_
       refine plan_rd (A := ?A1) ?h11 ?h12
       case h11 =>
        rintro w' ⟨q0, q1, q2, q3⟩ K hK
        simp only [opsAt, List.filterMap_cons, List.filterMap_nil, List.getElem?_toArray, List.getElem?_cons_succ, List.getElem?_cons_zero]
        repeat still_step
        refine wpStill_nil ?_
        exact hK
       have kd := chg_drew (fun _ => False) wa
       have RD := Lib.hid (FRow.chg RA.out kd (fun _ _ e => e))
       have OD := Lib.hid (kd.obj (fun e => e) OA.out)
       have KD := Lib.hid (KA.out.drew)
       have hgd : wr.heap.size < wa.drew.heap.size := hgw
       have cw2 : wa.drew.cell? ⟨gl, i, none⟩ = some (.string (bar (wordAt r0 i))) := cw
       clear cw cb s0 s1 kd RA OA KA
       generalize wa.drew = wd at *
       refine plan_ef rfl ?_
       go_wp2_with fail
       (with_reducible refine (USE.out).mono ?_)
       rintro e w3 ⟨rfl, k3⟩
       have r3 := FRow.chg RD.out k3 (fun _ _ e => e)
       have c3 : w3.cell? ⟨bb, 0, none⟩ = some (.slice (some ⟨gl, 0, none⟩) r.length lac) := cell_of r3.hb rfl
       have K3 := Lib.hid (KD.out.trans k3)
       have R3 := Lib.hid r3
       have O3 := Lib.hid (k3.obj (fun e => e) OD.out)
       have cw3 := cell_chg k3 (fun e => e) cw2
       have hg3 : w.heap.size ≤ w3.heap.size := K3.out.size
       have hgd3 : wr.heap.size < w3.heap.size := Nat.lt_of_lt_of_le hgd k3.size
       clear k3 r3 RD OD KD cw2
       go_wp2_with fail
       refine ⟨⟨c3, cw3, cell_of O3.out rfl, cell_of O3.out rfl⟩, ?_⟩
       refine plan_rd (A := ?A2) ?h13 ?h14
       case h13 =>
        intro w' hS K hK
        clear hS
        simp only [opsAt, List.filterMap_cons, List.filterMap_nil, List.getElem?_toArray, List.getElem?_cons_succ, List.getElem?_cons_zero]
        repeat still_step
        refine wpStill_nil ?_
        exact hK
       refine plan_nil ?_
       clear cw3
       cases hst : stepI (R.map brul) (wordAt r0 i) ((a : Int), (k : Int)) with
       | none =>
        rw [hst] at HUX
        obtain ⟨rfl, rfl⟩ : ux = ⟨#[]⟩ ∧ ox = false := by have := HUX.out; unfold useV at this; simp at this; exact ⟨this.1.symm, this.2⟩
        have NX := Lib.hid (show rowPre (R.map brul) bnd i r0 (wordAt r0 i) a (k + 1) = some r by rw [rowPre_no (by rw [List.length_map]; exact hk) ha hst]; exact PRE.out)
        have NN := Lib.hid (show FIn w (R.map brul) bnd bb i r0 a (k + 1) r w3 from ⟨⟨_, _, _, R3.out⟩, NX.out, K3.out⟩)
        clear hst
        go_wp2
        go_roundw
        case rel => exact ⟨k + 1, r, by go_num, by omega, NN⟩
        case measure => simp [intOf]; omega
       | some v =>
        rw [hst] at HUX
        obtain ⟨rfl, rfl⟩ : ux = bar v ∧ ox = true := by have := HUX.out; unfold useV at this; simp at this; exact ⟨this.1.symm, this.2⟩
        have YES := Lib.hid (rowPre_yes (b := bnd) (i := i) (r := r0) (by rw [List.length_map]; exact hk) ha hst PRE.out)
        have SMAY := Lib.hid (stepI_may HMU.out hst)
        clear hst
        have PL := Lib.hid (rplace_any w3 w.heap.size bb _ _ _ r r r (bar v) R3.out (by omega))
        rw [bar_list] at PL
        by_cases hin : v ∈ wordsR r
        ·have NX := Lib.hid (show rowPre (R.map brul) bnd i r0 (wordAt r0 i) a (k + 1) = some r by rw [YES.out, if_pos hin])
         have NN := Lib.hid (show FIn w (R.map brul) bnd bb i r0 a (k + 1) r w3 from ⟨⟨_, _, _, R3.out⟩, NX.out, K3.out⟩)
         rw [show placeI r v = (((wordsR r).idxOf v : Nat) : Int) from if_pos hin] at PL
         clear hin
         generalize (wordsR r).idxOf v = ix at *
         go_wp2_with fail
         (with_reducible refine (PL.out).mono ?_)
         rintro e w4 ⟨rfl, rfl⟩
         go_wp2
         go_roundw
         case rel => exact ⟨k + 1, r, by go_num, by omega, NN⟩
         case measure => simp [intOf]; omega
        ·rw [show placeI r v = -1 from if_neg hin] at PL
         by_cases hbl : r.length = bnd
         ·have NX := Lib.hid (show rowOf (R.map brul) s.data.toList bnd = none from HO0.out.over (k := k + 1) hi ha (by rw [List.length_map]; omega) (by rw [YES.out, if_neg hin, if_pos hbl]))
          have g5 : ((r.length : Int) == (bnd : Int)) = true := by rw [beq_iff_eq]; omega
          clear hin hbl
          go_wp2_with fail
          (with_reducible refine (PL.out).mono ?_)
          rintro e w4 ⟨rfl, rfl⟩
          go_wp2
          go_ret2
          refine ⟨fun r hr => ?_, fun _ => ⟨rfl, K3.out⟩⟩
          rw [NX.out] at hr; cases hr
         ·have NX := Lib.hid (show rowPre (R.map brul) bnd i r0 (wordAt r0 i) a (k + 1) = some (r ++ [(v, ((i : Int), (a, k)))]) by rw [YES.out, if_neg hin, if_neg hbl])
          have g5 : ((r.length : Int) == (bnd : Int)) = false := by rw [beq_eq_false_iff_ne]; omega
          clear hin hbl
          go_wp2_with fail
          (with_reducible refine (PL.out).mono ?_)
          rintro e w4 ⟨rfl, rfl⟩
          go_wp2_with (at_builtin; refine wpList_pushN rfl (.tmp 97) (.tmp 99) 25 rfl 57 1 16 Tryz.underlying25 Tryz.elemWord w.heap.size _ _ _ rfl (R3.out.hl.alloc _) _ 1 [.string (bar v)] 57 (0, 0) rfl (obj_alloc_new _ _) rfl ?x1 ?x2 ?x3 ?x4 ?nx1)
          case x1 => intro u hu; simp at hu; subst hu; rfl
          case x2 => omega
          case x3 => unfold maxLen; omega
          case x4 => simp; omega
          intro v4 w4 o4 g4
          have r3a := FRow.chg R3.out (chg_alloc (fun _ => False) w3 (.cells #[.string (bar v)] 57)) (fun _ _ e => e)
          have r4 := FRow.stepL (e := (v, ((i : Int), (a, k)))) r3a g4 o4
          have h4b := (Chg.of_grown g4).obj (fun q => by have := own_ty r3a.hl q r3a.hb; cases this) r3a.hb
          have c4 : w4.cell? ⟨bb, 0, none⟩ = some (.slice (some ⟨gl, 0, none⟩) r.length lac) := cell_of h4b rfl
          have z4 : w4.frozen? ⟨bb, 0, none⟩ = false := frozen_of h4b
          obtain ⟨a4, cp4, rfl⟩ := own_shape o4
          have d4 : (w4.setCell ⟨bb, 0, none⟩ (.slice a4 (r.length + 1) cp4)).cell? ⟨bb, 1, none⟩ = some (.slice lfa r.length lfc) := cell_of r4.hb rfl
          have k4 : Chg (fun x => w.heap.size ≤ x ∧ x < wr.heap.size) w3 (w4.setCell ⟨bb, 0, none⟩ (.slice a4 (r.length + 1) cp4)) := (((chg_alloc _ w3 (.cells #[.string (bar v)] 57)).grown g4 (fun x hx _ => ⟨(r3a.hl.lt x hx).1, LT.out.1 x hx⟩)).setCell (p := ⟨bb, 0, none⟩) (fun _ => ⟨R3.out.bb, LT.out.2.2.2⟩) _)
          have R4 := Lib.hid r4
          have O4 := Lib.hid (k4.obj (k := wr.heap.size) (fun q => by omega) O3.out)
          have K4 := Lib.hid (show Chg (fun _ => False) w (w4.setCell ⟨bb, 0, none⟩ (.slice a4 (r.length + 1) cp4)) from K3.out.next k4 (fun x hx e => by have := e.1; omega))
          have hg4 : w.heap.size ≤ (w4.setCell ⟨bb, 0, none⟩ (.slice a4 (r.length + 1) cp4)).heap.size := K4.out.size
          have N4 := Lib.hid (show ((w4.setCell ⟨bb, 0, none⟩ (.slice a4 (r.length + 1) cp4)).alloc (.cells #[.int .i64 (i : Int)] 3)).heap[w4.heap.size]? = some (.cells #[.int .i64 (i : Int)] 3 (0, 0)) by
           have hz : (w4.setCell ⟨bb, 0, none⟩ (.slice a4 (r.length + 1) cp4)).heap.size = w4.heap.size := by simp [World.setCell]
           rw [← hz]; exact obj_alloc_new _ _)
          clear r3a r4 h4b g4 o4 k4 R3 O3 K3
          go_wp2_with (at_builtin; refine wpList_pushN rfl (.tmp 107) (.tmp 109) 36 rfl 3 1 8 Tryz.underlying36 Tryz.elemInt w.heap.size _ _ _ rfl (R4.out.hf.alloc _) _ 1 [.int .i64 (i : Int)] 3 (0, 0) rfl N4.out rfl ?y1 ?y2 ?y3 ?y4 ?nx2)
          case y1 => intro u hu; simp at hu; subst hu; rfl
          case y2 => omega
          case y3 => unfold maxLen; omega
          case y4 => exact Nat.le_trans hg4 (by simp)
          intro v5 w5 o5 g5
          generalize w4.setCell ⟨bb, 0, none⟩ (.slice a4 (r.length + 1) cp4) = w4' at *
          have r4a := FRow.chg R4.out (chg_alloc (fun _ => False) w4' (.cells #[.int .i64 (i : Int)] 3)) (fun _ _ e => e)
          have r5 := FRow.stepF (e := (v, ((i : Int), (a, k)))) r4a g5 o5
          have h5b := (Chg.of_grown g5).obj (fun q => by have := own_ty r4a.hf q r4a.hb; cases this) r4a.hb
          have c5 : w5.cell? ⟨bb, 1, none⟩ = some (.slice lfa r.length lfc) := cell_of h5b rfl
          have z5 : w5.frozen? ⟨bb, 1, none⟩ = false := frozen_of h5b
          obtain ⟨a5, cp5, rfl⟩ := own_shape o5
          have k5 : Chg (fun x => w.heap.size ≤ x ∧ x < wr.heap.size) w4' (w5.setCell ⟨bb, 1, none⟩ (.slice a5 (r.length + 1) cp5)) := (((chg_alloc _ w4' (.cells #[.int .i64 (i : Int)] 3)).grown g5 (fun x hx _ => ⟨(r4a.hf.lt x hx).1, LT.out.2.1 x hx⟩)).setCell (p := ⟨bb, 1, none⟩) (fun _ => ⟨R4.out.bb, LT.out.2.2.2⟩) _)
          have R5 := Lib.hid r5
          have O5 := Lib.hid (k5.obj (k := wr.heap.size) (fun q => by omega) O4.out)
          have K5 := Lib.hid (show Chg (fun _ => False) w (w5.setCell ⟨bb, 1, none⟩ (.slice a5 (r.length + 1) cp5)) from K4.out.next k5 (fun x hx e => by have := e.1; omega))
          clear r4a r5 h5b g5 o5 k5 R4 O4 K4 c4 z4 d4 c3
          go_wp2_with fail
          generalize w5.setCell ⟨bb, 1, none⟩ (.slice a5 (r.length + 1) cp5) = w5' at *
          have d5 : w5'.cell? ⟨bb, 2, none⟩ = some (.slice lba r.length lbc) := cell_of R5.out.hb rfl
          have s5 : w5'.cell? ⟨wr.heap.size, 0, none⟩ = some (.int .i64 (a : Int)) := cell_of O5.out rfl
          have s6 : w5'.cell? ⟨wr.heap.size, 1, none⟩ = some (.int .i64 (k : Int)) := cell_of O5.out rfl
          clear c5 z5
          refine wp_region_planL (N := 124) [.rd [0, 1, 2, 3, 4, 5], .ef 6, .ef 7, .ef 8, .ef 9, .ef 10] 10 (fun w' => w'.cell? ⟨bb, 2, none⟩ = some (.slice lba r.length lbc) ∧ w'.cell? ⟨wr.heap.size, 0, none⟩ = some (.int .i64 (a : Int)) ∧ w'.cell? ⟨wr.heap.size, 1, none⟩ = some (.int .i64 (k : Int))) (by kernel_rfl) (by kernel_rfl) (by kernel_rfl) (by kernel_rfl) (by kernel_rfl) (Nat.le_of_ble_eq_true rfl) ⟨d5, s5, s6⟩ ?_
          refine planL_rd (A := ?A3) ?h15 ?h16
          case h15 =>
           rintro w' ⟨q0, q1, q2⟩ K hK
           simp only [opsAt, List.filterMap_cons, List.filterMap_nil, List.getElem?_toArray, List.getElem?_cons_succ, List.getElem?_cons_zero]
           repeat still_step
           refine wpStill_nil ?_
           exact hK
          refine planL_ef rfl ?_
          go_wp2_with fail
          have kb := (chg_drew (fun _ => False) w5').alloc (.cells #[.int .i64 (a : Int), .int .i64 (k : Int)] 153)
          refine ⟨by first | exact .inr ⟨cell_chg kb (fun e => e) d5, cell_chg kb (fun e => e) s5, cell_chg kb (fun e => e) s6⟩ | exact ⟨cell_chg kb (fun e => e) d5, cell_chg kb (fun e => e) s5, cell_chg kb (fun e => e) s6⟩, ?_⟩
          refine planL_ef rfl ?_
          have r6 := FRow.chg R5.out kb (fun _ _ e => e)
          refine wpList_pushN rfl (.tmp 117) (.tmp 119) 81 rfl 153 2 16 Tryz.underlying81 Tryz.elemStep w.heap.size _ _ _ rfl r6.hs _ 1 [.int .i64 (a : Int), .int .i64 (k : Int)] 153 (0, 0) rfl (obj_alloc_new _ _) rfl (by intro u hu; simp at hu; rcases hu with rfl | rfl <;> rfl) (by omega) (by unfold maxLen; omega) (by have := K5.out.size; simp; omega) ?_
          intro v7 w7 o7 g7
          have r7 := FRow.stepS (e := (v, ((i : Int), (a, k)))) r6 g7 o7
          have h7b := (Chg.of_grown g7).obj (fun q => by have := own_ty r6.hs q r6.hb; cases this) r6.hb
          have c7 : w7.cell? ⟨bb, 2, none⟩ = some (.slice lba r.length lbc) := cell_of h7b rfl
          have z7 : w7.frozen? ⟨bb, 2, none⟩ = false := frozen_of h7b
          have o7s := (Chg.of_grown g7).obj (k := wr.heap.size) (fun q => by have := LT.out.2.2.1 _ q; omega) (kb.obj (fun e => e) O5.out)
          have t5 : w7.cell? ⟨wr.heap.size, 0, none⟩ = some (.int .i64 (a : Int)) := cell_of o7s rfl
          have t6 : w7.cell? ⟨wr.heap.size, 1, none⟩ = some (.int .i64 (k : Int)) := cell_of o7s rfl
          obtain ⟨a7, cp7, rfl⟩ := own_shape o7
          have k7 : Chg (fun x => w.heap.size ≤ x) w5' (w7.setCell ⟨bb, 2, none⟩ (.slice a7 (r.length + 1) cp7)) := ((kb.mono (fun _ _ e => e.elim)).grown g7 (fun x hx _ => (r6.hs.lt x hx).1)).setCell (p := ⟨bb, 2, none⟩) (fun _ => R5.out.bb) _
          have R7 := Lib.hid r7
          have K7 := Lib.hid (show Chg (fun _ => False) w (w7.setCell ⟨bb, 2, none⟩ (.slice a7 (r.length + 1) cp7)) from K5.out.next k7 (fun x hx e => by omega))
          clear r6 r7 h7b o7s o7 g7 k7 kb d5 s5 s6 R5 O5 K5
          go_wp2_with fail
          refine ⟨by first | exact .inr ⟨c7, t5, t6⟩ | exact ⟨c7, t5, t6⟩, ?_⟩
          refine planL_ef rfl ?_
          go_wp2_with fail
          refine ⟨by first | exact .inr ⟨c7, t5, t6⟩ | exact ⟨c7, t5, t6⟩, ?_⟩
          refine planL_ef rfl ?_
          go_wp2_with fail
          refine ⟨by first | exact .inr ⟨c7, t5, t6⟩ | exact ⟨c7, t5, t6⟩, ?_⟩
          refine planL_ef rfl ?_
          refine wpList_store_one rfl 81 (.tmp 122) (.tmp 120) rfl bb 2 rfl (.slice a7 (r.length + 1) cp7) rfl rfl rfl Tryz.sizeSteps _ c7 z7 ?_
          intro w8 hw8
          rw [← hw8] at R7 K7
          clear hw8 c7 z7 t5 t6
          refine ⟨.inl rfl, planL_nil ?_⟩
          have NN := Lib.hid (show FIn w (R.map brul) bnd bb i r0 a (k + 1) (r ++ [(v, ((i : Int), (a, k)))]) w8 from ⟨⟨_, _, _, R7.out⟩, NX.out, K7.out⟩)
          clear R7 K7
          go_wp2
          go_roundw
          case rel => exact ⟨k + 1, _, by go_num, by omega, NN⟩
          case measure => simp [intOf]; omega
      ·obtain rfl : k = R.length := by omega
       have NX := Lib.hid (show FIn w (R.map brul) bnd bb i r0 (a + 1) 0 r wr from ⟨HK.out.row, by have := HK.out.pre; rw [← List.length_map (f := brul), rowPre_next] at this; exact this, HK.out.chg⟩)
       go_wp2
       go_roundw
       case rel => exact ⟨a + 1, r, by go_num, by omega, NX⟩
       case measure => simp [intOf]; omega
    ·obtain rfl : a = alen (wordAt r0 i) := by omega
     have NX := Lib.hid (HO0.out.next hi HA.out)
     go_wp2
     go_roundw
     case rel => exact ⟨i + 1, r1, by go_num, NX⟩
     case measure => simp [intOf]; omega
  ·have RES := Lib.hid (HO.out.done hi)
   go_wp2
   go_ret2
   refine ⟨fun r hr => ?_, fun hr => ?_⟩
   ·rw [RES.out] at hr
    cases hr
    exact ⟨bb, rfl, HO.out.row, HO.out.chg⟩
   ·rw [RES.out] at hr; cases hr
end Go.Proofs.YthdfplafihmejaaGreat
