/-
  The reference of layer 20: Head.
-/
import Derived.Test.YtnmgnhhipgiggaaJRef6
import Derived.Test.YtnmgnhhipgiggaaJHead
namespace Go.Proofs.Ytnmgnhhipgiggaa
open Go.RowKit

/-- zeros, then the bytes from k on -/
def downCells (l : List UInt8) (k : Nat) : List Value := reps k (.int .u8 0) ++ bcells (l.drop k)
theorem downCells_get (l : List UInt8) (k : Nat) : (downCells l (k + 1)).toArray[k]? = some (.int .u8 0) := by
  rw [List.getElem?_toArray]
  unfold downCells reps
  rw [List.getElem?_append_left (by simp), List.getElem?_replicate, if_pos (by omega)]
theorem downCells_set (l : List UInt8) (k : Nat) (hk : k < l.length) (v : Value) (hv : v = bcell (l.getD k 0)) : (downCells l (k + 1)).toArray.setIfInBounds k v = (downCells l k).toArray := by
  rw [List.setIfInBounds_toArray]
  congr 1
  unfold downCells reps
  rw [List.set_append_left _ _ (by simp), List.replicate_succ', List.set_append_right _ _ (by simp)]
  rw [List.length_replicate, Nat.sub_self, List.set_cons_zero, List.append_assoc, hv]
  rw [List.drop_eq_getElem_cons hk, List.getD_eq_getElem?_getD, List.getElem?_eq_getElem hk]; rfl
theorem downCells_zero (l : List UInt8) : downCells l 0 = bcells l := by simp [downCells, reps]
def u64of (x : Int) : Nat := (x % 18446744073709551616).toNat
theorem headBytes_num' (x : Int) (half n k : Nat) (hk : k < 8) (z : Int) (hz : z = ((u64of x / 2 ^ (8 * (7 - k)) % 256 : Nat) : Int)) :
    Value.int .u8 z = bcell ((headBytes x half n).getD k 0) := by
  have e : (headBytes x half n).getD k 0 = UInt8.ofNat (nbyteN x k) := by
    unfold headBytes
    rw [List.getD_eq_getElem?_getD, List.getElem?_append_left (by simpa using hk), List.getElem?_map, List.getElem?_range hk]; rfl
  rw [e, hz]
  exact byte_val (nbyteN x k) _ (by unfold nbyteN; omega) rfl
theorem u64_step (U k : Nat) (hk : k < 8) : U / 2 ^ (8 * (7 - k)) / 256 = U / 2 ^ (8 * (8 - k)) := by
  rw [Nat.div_div_eq_div_mul, show 8 * (8 - k) = 8 * (7 - k) + 8 from by omega, Nat.pow_add]
theorem downCells_start (x : Int) (half n : Nat) : (downCells (headBytes x half n) 8).toArray = #[.int .u8 0, .int .u8 0, .int .u8 0, .int .u8 0, .int .u8 0, .int .u8 0, .int .u8 0, .int .u8 0, bcell (UInt8.ofNat half), bcell (UInt8.ofNat (n / 256)), bcell (UInt8.ofNat n)] := rfl
theorem u64_lt (x : Int) : u64of x < 18446744073709551616 := by unfold u64of; omega

theorem rhead_any (w : World) (x : Int) (half n : Nat) (hh : half ≤ 1) (hn : n ≤ 2000) :
    Calls Try.prog 39 #[.int .i64 x, .int .i64 half, .int .i64 n] w fun e w' => e = .returned (.string ⟨(headBytes x half n).toArray⟩) ∧ Chg (fun _ => False) w w' := by
  have ll := headBytes_length x half n
  have HNUM := Lib.hid (fun k hk z hz => headBytes_num' x half n k hk z hz)
  have ST := Lib.hid (downCells_start x half n)
  have hul := u64_lt x
  have HU := Lib.hid (show IntKind.u64.wrap x = ((u64of x : Nat) : Int) by rw [IntKind.wrap_u64]; unfold u64of; omega)
  generalize headBytes x half n = L at *
  generalize u64of x = U at *
  have LL := Lib.hid ll
  clear ll
  go_enter Try.func39, Try.ntmps39
  go_wp2
  have B1 := Lib.hid (show Value.int .u8 (half : Int) = bcell (UInt8.ofNat half) from byte_val half _ (by omega) rfl)
  have B2 := Lib.hid (show Value.int .u8 ((n : Int) / 256) = bcell (UInt8.ofNat (n / 256)) from byte_val (n / 256) _ (by omega) (by omega))
  have B3 := Lib.hid (show Value.int .u8 ((n : Int) % 256) = bcell (UInt8.ofNat n) from byte_val' n _ (by omega))
  go_loopw [8, 9] (fun u i wr => ∃ k : Nat, k ≤ 8 ∧ i = .int .i64 ((k : Int) - 1) ∧ u = .int .u64 ((U / 2 ^ (8 * (8 - k)) : Nat) : Int) ∧ wr.heap[w.heap.size]? = some (.cells (downCells L k).toArray 5 (0, 0)) ∧ Chg (fun _ => False) w wr) (fun _ i _ => (intOf i + 1).toNat)
  case atStart => exact ⟨8, by omega, rfl, by rw [HU.out]; simp, by rw [ST.out, ← B1.out, ← B2.out, ← B3.out]; exact obj_alloc_new _ _, chg_alloc _ _ _⟩
  case round =>
    obtain ⟨k, hk, rfl, rfl, hb, hc⟩ := hrel
    have HB := Lib.hid hb
    have HC := Lib.hid hc
    clear hb hc B1 B2 B3 ST
    rcases k with _ | k
    · have e0 : (((0 : Nat) : Int) - 1) = -1 := rfl
      rw [e0]
      have cv := run_str_seg (P := Try.prog) wr 59 5 9 Try.underlying59 Try.underlying5 Try.underlying9 w.heap.size 0 11 11 (downCells L 0) 5 (0, 0) HB.out L LL.out (by rw [downCells_zero, List.drop_zero, List.take_of_length_le (by rw [bcells_length, LL.out]; omega)])
      clear e0
      generalize ((U / 2 ^ (8 * (8 - 0)) : Nat) : Int) = uu at *
      go_wp2
      go_ret
      exact ⟨rfl, HC.out⟩
    · have e0 : (((k + 1 : Nat) : Int) - 1) = (k : Int) := by omega
      rw [e0]
      have hk7 : k < 8 := by omega
      have cc : wr.cell? ⟨w.heap.size, k, none⟩ = some (.int .u8 0) := cell_of HB.out (downCells_get L k)
      have ff : wr.frozen? ⟨w.heap.size, k, none⟩ = false := frozen_of HB.out
      have US := Lib.hid (u64_step U k hk7)
      have e1 : 8 - (k + 1) = 7 - k := by omega
      have HN := Lib.hid (HNUM.out k hk7)
      rw [e1]
      have hq : U / 2 ^ (8 * (7 - k)) ≤ U := Nat.div_le_self _ _
      generalize U / 2 ^ (8 * (7 - k)) = q at *
      clear e0 e1
      go_wp2
      go_roundw
      case rel =>
        refine ⟨k, by omega, rfl, ?_, ?_, HC.out.setCell (fun e => absurd e (Nat.lt_irrefl _)) _⟩
        · rw [← US.out]; first | rfl | (congr 1; omega)
        · rw [obj_setCell HB.out, downCells_set L k (by rw [LL.out]; omega) _ (HN.out _ ?_)]
          first | rfl | omega
      case measure => simp [intOf]
end Go.Proofs.Ytnmgnhhipgiggaa
