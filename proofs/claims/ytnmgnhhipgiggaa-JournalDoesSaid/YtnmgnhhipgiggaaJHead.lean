/-
  Package journal: head.
-/
import Derived.Test.YtnmgnhhipgiggaaJOpen
namespace Go.Proofs.Ytnmgnhhipgiggaa
open Go.RowKit

/-- 'string(b)': the bytes lie in a row that is known whole. -/
theorem run_str_seg {P : Program} (w : World) (src e dst : TypeId) (hs : P.underlying src = some (.slice e)) (he : P.underlying e = some (.int .u8)) (hd : P.underlying dst = some .string) (g o n cap : Nat) (cur : List Value) (t : TypeId) (fz : Nat × Nat)
    (hg : w.heap[g]? = some (.cells cur.toArray t fz)) (l : List UInt8) (hl : l.length = n) (hseg : (cur.drop o).take n = bcells l) :
    (convert src dst (.slice (some ⟨g, o, none⟩) n cap)).run P w = .ok (.string ⟨l.toArray⟩) w := by
  have := run_convert_bytes_arg (P := P) w src e hs he g o n cap (l.map fun c => (c.toNat : Int)) (by rw [List.length_map, hl]) (fun i hi => by
    refine cell_of hg ?_
    rw [← bcells_get l i (by omega), ← hseg, List.getElem?_take, if_pos hi, List.getElem?_drop, List.getElem?_toArray]) dst hd
  rw [strOfNums_bytes] at this; exact this

/-- the first k of the bytes, then zeros -/
def midCells (l : List UInt8) (k : Nat) : List Value := bcells (l.take k) ++ reps (l.length - k) (.int .u8 0)
theorem midCells_length (l : List UInt8) (k : Nat) (hk : k ≤ l.length) : (midCells l k).length = l.length := by
  simp [midCells, bcells_length, reps_length]; omega
theorem midCells_get (l : List UInt8) (k : Nat) (hk : k < l.length) : (midCells l k).toArray[k]? = some (.int .u8 0) := by
  have : (bcells (l.take k)).length = k := by rw [bcells_length, List.length_take]; omega
  rw [List.getElem?_toArray]
  unfold midCells reps
  rw [List.getElem?_append_right (by omega), this, Nat.sub_self, List.getElem?_replicate, if_pos (by omega)]
theorem midCells_get' (l : List UInt8) (k j : Nat) (hk : k ≤ j) (hj : j < l.length) : (midCells l k).toArray[j]? = some (.int .u8 0) := by
  have : (bcells (l.take k)).length = k := by rw [bcells_length, List.length_take]; omega
  rw [List.getElem?_toArray]
  unfold midCells reps
  rw [List.getElem?_append_right (by omega), this, List.getElem?_replicate, if_pos (by omega)]
theorem midCells_set (l : List UInt8) (k : Nat) (hk : k < l.length) (v : Value) (hv : v = bcell (l.getD k 0)) : (midCells l k).toArray.setIfInBounds k v = (midCells l (k + 1)).toArray := by
  have h1 : (bcells (l.take k)).length = k := by rw [bcells_length, List.length_take]; omega
  rw [List.setIfInBounds_toArray]
  congr 1
  unfold midCells reps
  obtain ⟨m, hm⟩ : ∃ m, l.length - k = m + 1 := ⟨l.length - k - 1, by omega⟩
  rw [List.set_append_right _ _ (by omega), h1, Nat.sub_self, hm, show l.length - (k + 1) = m from by omega, List.replicate_succ, List.set_cons_zero]
  rw [List.take_succ_eq_append_getElem hk, hv, List.getD_eq_getElem?_getD, List.getElem?_eq_getElem hk]
  unfold bcells
  rw [List.map_append, List.append_assoc]; rfl
theorem midCells_zero (l : List UInt8) : midCells l 0 = reps l.length (.int .u8 0) := by simp [midCells, bcells]
theorem midCells_all (l : List UInt8) : midCells l l.length = bcells l := by simp [midCells, reps]
theorem headBytes_num (x : Int) (half n k : Nat) (hk : k < 8) :
    Value.int .u8 (IntKind.u64.wrap x / 2 ^ (8 * (7 - k)) % 256) = bcell ((headBytes x half n).getD k 0) := by
  have e : (headBytes x half n).getD k 0 = UInt8.ofNat (nbyteN x k) := by
    unfold headBytes
    rw [List.getD_eq_getElem?_getD, List.getElem?_append_left (by simpa using hk), List.getElem?_map, List.getElem?_range hk]; rfl
  rw [e]
  unfold bcell
  have h2 : (UInt8.ofNat (nbyteN x k)).toNat = nbyteN x k := by
    rw [UInt8.toNat_ofNat']; unfold nbyteN; omega
  rw [h2, IntKind.wrap_u64]
  unfold nbyteN
  congr 1
  have hnn : 0 ≤ x % 18446744073709551616 := Int.emod_nonneg _ (by decide)
  rw [Int.natCast_emod, Int.natCast_ediv, Int.natCast_pow, Int.toNat_of_nonneg hnn]; rfl

theorem byte_val (m : Nat) (z : Int) (hm : m < 256) (hz : z = m) : Value.int .u8 z = bcell (UInt8.ofNat m) := by
  subst hz; unfold bcell; rw [UInt8.toNat_ofNat']; congr 1; omega
theorem byte_val' (m : Nat) (z : Int) (hz : z = m % 256) : Value.int .u8 z = bcell (UInt8.ofNat m) := by
  subst hz; unfold bcell; rw [UInt8.toNat_ofNat']; congr 1
theorem head_any (w : World) (x : Int) (half n : Nat) (hh : half ≤ 1) (hn : n ≤ 2000) :
    Calls Try.prog 38 #[.int .i64 x, .int .i64 half, .int .i64 n] w fun e w' => e = .returned (.string ⟨(headBytes x half n).toArray⟩) ∧ Chg (fun _ => False) w w' := by
  have ll := headBytes_length x half n
  have HNUM := Lib.hid (fun k hk => headBytes_num x half n k hk)
  have B8 := Lib.hid (show (headBytes x half n).getD 8 0 = UInt8.ofNat half from rfl)
  have B9 := Lib.hid (show (headBytes x half n).getD 9 0 = UInt8.ofNat (n / 256) from rfl)
  have B10 := Lib.hid (show (headBytes x half n).getD 10 0 = UInt8.ofNat n from rfl)
  generalize headBytes x half n = L at *
  have LL := Lib.hid ll
  clear ll
  go_enter Try.func38, Try.ntmps38
  go_wp2
  go_loopw [9] (fun i wr => ∃ k : Nat, k ≤ 8 ∧ i = .int .i64 k ∧ wr.heap[w.heap.size]? = some (.cells (midCells L k).toArray 72 (0, 0)) ∧ Chg (fun _ => False) w wr) (fun i _ => 8 - (intOf i).toNat)
  case atStart => exact ⟨0, by omega, rfl, by rw [midCells_zero, LL.out]; exact obj_alloc_new _ _, chg_alloc _ _ _⟩
  case round =>
    obtain ⟨k, hk, rfl, hb, hc⟩ := hrel
    by_cases hlt : k < 8
    · have cc : wr.cell? ⟨w.heap.size, k, none⟩ = some (.int .u8 0) := cell_of hb (midCells_get L k (by rw [LL.out]; omega))
      have ff : wr.frozen? ⟨w.heap.size, k, none⟩ = false := frozen_of hb
      have HB := Lib.hid hb
      have HC := Lib.hid hc
      clear hb hc
      go_wp2
      go_roundw
      case rel =>
        refine ⟨k + 1, by omega, by go_num, ?_, HC.out.setCell (fun e => absurd e (Nat.lt_irrefl _)) _⟩
        rw [obj_setCell HB.out, midCells_set L k (by rw [LL.out]; omega) _ (HNUM.out k hlt)]
      case measure => simp [intOf]; omega
    · obtain rfl : k = 8 := by omega
      have c8 : wr.cell? ⟨w.heap.size, 8, none⟩ = some (.int .u8 0) := cell_of hb (midCells_get L 8 (by rw [LL.out]; omega))
      have f8 : wr.frozen? ⟨w.heap.size, 8, none⟩ = false := frozen_of hb
      have c9 : wr.cell? ⟨w.heap.size, 9, none⟩ = some (.int .u8 0) := cell_of hb (midCells_get' L 8 9 (by omega) (by rw [LL.out]; omega))
      have f9 : wr.frozen? ⟨w.heap.size, 9, none⟩ = false := frozen_of hb
      have c10 : wr.cell? ⟨w.heap.size, 10, none⟩ = some (.int .u8 0) := cell_of hb (midCells_get' L 8 10 (by omega) (by rw [LL.out]; omega))
      have f10 : wr.frozen? ⟨w.heap.size, 10, none⟩ = false := frozen_of hb
      obtain ⟨w5, hw5⟩ : ∃ w5, w5 = ((wr.setCell ⟨w.heap.size, 8, none⟩ (.int .u8 half)).setCell ⟨w.heap.size, 9, none⟩ (.int .u8 ((n : Int) / 256))).setCell ⟨w.heap.size, 10, none⟩ (.int .u8 ((n : Int) % 256)) := ⟨_, rfl⟩
      have h5 : w5.heap[w.heap.size]? = some (.cells (bcells L).toArray 72 (0, 0)) := by
        rw [hw5, obj_setCell (obj_setCell (obj_setCell hb _) _) _, midCells_set L 8 (by rw [LL.out]; omega) _ (by rw [B8.out]; exact byte_val half _ (by omega) rfl),
          midCells_set L 9 (by rw [LL.out]; omega) _ (by rw [B9.out]; exact byte_val (n / 256) _ (by omega) (by omega)), midCells_set L 10 (by rw [LL.out]; omega) _ (by rw [B10.out]; exact byte_val' n _ (by omega))]
        have := midCells_all L; rw [LL.out] at this; rw [this]
      have k5 : Chg (fun _ => False) w w5 := by
        rw [hw5]; exact ((hc.setCell (fun e => absurd e (Nat.lt_irrefl _)) _).setCell (fun e => absurd e (Nat.lt_irrefl _)) _).setCell (fun e => absurd e (Nat.lt_irrefl _)) _
      have hcv := run_str_seg (P := Try.prog) w5 59 5 9 Try.underlying59 Try.underlying5 Try.underlying9 w.heap.size 0 11 11 (bcells L) 72 (0, 0) h5 L LL.out (by rw [List.drop_zero, List.take_of_length_le (by rw [bcells_length, LL.out]; omega)])
      have K5 := Lib.hid k5
      have HB := Lib.hid hb
      have HC := Lib.hid hc
      rw [hw5] at hcv
      have HW5 := Lib.hid hw5
      clear hb hc h5 k5 hw5
      go_wp2
      go_ret
      rw [← HW5.out]
      exact ⟨rfl, K5.out⟩
end Go.Proofs.Ytnmgnhhipgiggaa
