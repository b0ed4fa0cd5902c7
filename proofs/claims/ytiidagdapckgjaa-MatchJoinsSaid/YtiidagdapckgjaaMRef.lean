/-
  The reference's Atoms and May.
-/
import Derived.Test.YtiidagdapckgjaaMFirst
import Derived.Test.YtiidagdapckgjaaMPure3
namespace Go.Proofs.Ytiidagdapckgjaa
open Go.RowKit Go.Maps

def acells (l : List Nat) : List Value := l.map fun (a : Nat) => .int .u16 (a : Int)
theorem Try.elemAtom : ElemInfo Try.prog 44 1 2 := elemInfo_of (z := .int .u16 0) (by kernel_rfl) rfl (by decide)
theorem acells_snoc (l : List Nat) (a : Nat) : acells (l ++ [a]) = acells l ++ [.int .u16 (a : Int)] := by unfold acells; rw [List.map_append]; rfl
theorem u16_sum (x y : Nat) (hx : x < 256) (hy : y < 256) : IntKind.u16.wrap (IntKind.u16.wrap (IntKind.u16.wrap (x : Int) * 256) + IntKind.u16.wrap (y : Int)) = ((x * 256 + y : Nat) : Int) := by
  have e1 : IntKind.u16.wrap (x : Int) = (x : Int) := by show (x : Int) % 65536 = _; omega
  have e2 : IntKind.u16.wrap (y : Int) = (y : Int) := by show (y : Int) % 65536 = _; omega
  have e3 : IntKind.u16.wrap ((x : Int) * 256) = (x : Int) * 256 := by show ((x : Int) * 256) % 65536 = _; omega
  rw [e1, e2, e3]
  show ((x : Int) * 256 + (y : Int)) % 65536 = _
  omega
theorem atomAt_bytes (s : ByteArray) (k : Nat) (hk : 2 * k + 1 < s.size) (h0 : 2 * k < s.size) : atomAt s.data.toList k = (s[2 * k]'h0).toNat * 256 + (s[2 * k + 1]'hk).toNat := by
  have hsl := size_list s
  unfold atomAt
  rw [List.getD_eq_getElem?_getD, List.getElem?_eq_getElem (by omega), List.getD_eq_getElem?_getD, List.getElem?_eq_getElem (by omega)]; rfl
set_option maxHeartbeats 1000000 in
theorem ratoms_any (w : World) (s : ByteArray) (hs : s.size ≤ 100000) :
    Calls Try.prog 20 #[.string s] w fun e w' => ∃ v, e = .returned v ∧ w'.ownsRow w.heap.size 44 1 v (atoms s.data.toList).length (acells (atoms s.data.toList)) ∧ Chg (fun _ => False) w w' := by
  have hsl := size_list s
  have HN := Lib.hid (show alen s.data.toList = s.size / 2 by unfold alen; rw [hsl])
  have TK := Lib.hid (fun k hk => atoms_take_succ s.data.toList (i := k) hk)
  have AL := Lib.hid (atoms_length s.data.toList)
  have AV := Lib.hid (fun k hk h0 => atomAt_bytes s k hk h0)
  clear hsl
  go_enter Try.func20, Try.ntmps20
  go_wp2
  go_loopw [3, 4] (fun lv iv wr => ∃ k : Nat, 2 * k ≤ s.size ∧ iv = .int .i64 ((2 * k : Nat) : Int) ∧ wr.ownsRow w.heap.size 44 1 lv k (acells ((atoms s.data.toList).take k)) ∧ Chg (fun _ => False) w wr) (fun _ iv _ => s.size - (intOf iv).toNat)
  case atStart => exact ⟨0, by omega, rfl, own_empty _ _ _ _ (Nat.le_refl _), chg_alloc _ _ _⟩
  case round =>
    obtain ⟨k, hk, rfl, ho, hc⟩ := hrel
    have HO := Lib.hid ho
    have HC := Lib.hid hc
    have hsz := hc.size
    clear ho hc
    obtain ⟨i0, hi0⟩ : ∃ i0 : Nat, 2 * k = i0 := ⟨_, rfl⟩
    by_cases hlt : i0 + 1 < s.size
    · have TK1 := Lib.hid (TK.out k (by rw [HN.out]; omega))
      have hav := AV.out k (by omega) (by omega)
      obtain ⟨x, hx, qx⟩ : ∃ x, x < 256 ∧ (s[i0]'(Nat.lt_of_succ_lt hlt)).toNat = x := ⟨_, UInt8.toNat_lt _, rfl⟩
      obtain ⟨y, hy, qy⟩ : ∃ y, y < 256 ∧ (s[i0 + 1]'hlt).toNat = y := ⟨_, UInt8.toNat_lt _, rfl⟩
      have HAV := Lib.hid (show atomAt s.data.toList k = x * 256 + y by rw [hav, ← qx, ← qy]; simp only [hi0])
      have HI0 := Lib.hid hi0
      rw [hi0]
      clear hav hi0
      have SUM := Lib.hid (u16_sum x y hx hy)
      have a2 : IntKind.i64.wrap ((i0 : Int) + 1) = (i0 : Int) + 1 := by rw [IntKind.wrap_i64]; omega
      have b1 : 0 ≤ (i0 : Int) := by omega
      have b2 : (i0 : Int) < (s.size : Int) := by omega
      have b3 : 0 ≤ (i0 : Int) + 1 := by omega
      have b4 : (i0 : Int) + 1 < (s.size : Int) := by omega
      have t2 : ((i0 : Int) + 1).toNat = i0 + 1 := by omega
      go_wp2
      refine wp_region_plan (N := 28) [.rd [0, 1, 2, 3, 4, 5, 6, 7, 8, 9, 10, 11], .ef 12, .ef 13, .rd [14]] (fun _ => True) (by kernel_rfl) (by kernel_rfl) (by kernel_rfl) (by kernel_rfl) (Nat.le_of_ble_eq_true rfl) trivial ?_
      refine plan_rd (A := ?A1) ?h1 ?h2
      case h1 =>
        intro w' hS K hK
        clear hS
        simp only [opsAt, List.filterMap_cons, List.filterMap_nil, List.getElem?_toArray, List.getElem?_cons_succ, List.getElem?_cons_zero]
        repeat still_step
        refine wpStill_nil ?_
        exact hK
      rw [SUM.out, ← HAV.out]
      clear a2 b1 b2 b3 b4 t2
      generalize atomAt s.data.toList k = ak at *
      refine plan_ef rfl ?_
      go_wp2_with fail
      refine ⟨trivial, ?_⟩
      refine plan_ef rfl ?_
      refine wpList_push rfl (.tmp 13) (.tmp 25) 49 rfl 44 1 2 Try.underlying49 Try.elemAtom w.heap.size _ _ _ rfl ((own_chg HO.out (chg_drew (fun _ => False) wr) (fun _ _ e => e)).alloc _) _ [.int .u16 (ak : Int)] 44 (0, 0) rfl (obj_alloc_new _ _) rfl (by intro u hu; simp at hu; subst hu; rfl) (by omega) (by unfold maxLen; omega) (by simp; omega) ?_
      intro v5 w5 o5 g5
      have C5 := Lib.hid (((HC.out.drew).alloc (.cells #[.int .u16 (ak : Int)] 44)).own ((own_chg HO.out (chg_drew (fun _ => False) wr) (fun _ _ e => e)).alloc _) (Chg.of_grown g5))
      rw [← acells_snoc, ← TK1.out] at o5
      have O5 := Lib.hid o5
      clear o5 g5
      go_wp2_with fail
      refine ⟨trivial, ?_⟩
      refine plan_rd (A := ?A2) ?h3 ?h4
      case h3 =>
        intro w' hS K hK
        clear hS
        simp only [opsAt, List.filterMap_cons, List.filterMap_nil, List.getElem?_toArray, List.getElem?_cons_succ, List.getElem?_cons_zero]
        repeat still_step
        refine wpStill_nil ?_
        exact hK
      refine plan_nil ?_
      go_wp2
      go_roundw
      case rel => exact ⟨k + 1, by have := HI0.out; omega, by rw [show 2 * (k + 1) = i0 + 2 from by have := HI0.out; omega]; go_num, O5.out, C5.out⟩
      case measure => simp [intOf]; omega
    · have HT := Lib.hid (show (atoms s.data.toList).take k = atoms s.data.toList from List.take_of_length_le (by rw [AL.out, HN.out]; omega))
      have HKL := Lib.hid (show k = (atoms s.data.toList).length by rw [AL.out, HN.out]; omega)
      rw [hi0]
      have hge : (s.size : Int) ≤ (i0 : Int) + 1 := by omega
      have hd1 : decide ((i0 : Int) + 1 < (s.size : Int)) = false := by rw [decide_eq_false_iff_not]; omega
      have hd2 : decide (i0 + 1 < s.size) = false := by rw [decide_eq_false_iff_not]; omega
      have hi1 : i0 ≤ 100000 := by omega
      clear hi0
      go_wp2
      go_ret
      refine ⟨_, rfl, ?_, HC.out⟩
      have := HO.out
      rw [HT.out, HKL.out] at this
      exact this
end Go.Proofs.Ytiidagdapckgjaa
