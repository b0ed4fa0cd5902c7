/-
  The reference's Of.
-/
import Derived.Test.YtiidagdapckgjaaMRef4
import Derived.Laws.BytesString
import Derived.Laws.BytesArg
namespace Go.Proofs.Ytiidagdapckgjaa
open Go.RowKit Go.Maps

def ofAtoms (l : List Nat) : List UInt8 := l.flatMap fun a => [UInt8.ofNat (a / 256), UInt8.ofNat (a % 256)]
theorem ofAtoms_snoc (l : List Nat) (a : Nat) : ofAtoms (l ++ [a]) = ofAtoms l ++ [UInt8.ofNat (a / 256), UInt8.ofNat (a % 256)] := by unfold ofAtoms; rw [List.flatMap_append]; simp
theorem ofAtoms_length (l : List Nat) : (ofAtoms l).length = 2 * l.length := by
  induction l with
  | nil => rfl
  | cons c r ih => simp [ofAtoms] at ih ⊢; omega
theorem Try.elemByte : ElemInfo Try.prog 5 1 1 := elemInfo_of (z := .int .u8 0) (by kernel_rfl) rfl (by decide)
theorem byte_val (m : Nat) (z : Int) (hm : m < 256) (hz : z = m) : Value.int .u8 z = bcell (UInt8.ofNat m) := by
  subst hz; unfold bcell; rw [UInt8.toNat_ofNat']; congr 1; omega
set_option maxHeartbeats 1000000 in
theorem rof_any (w : World) (a : Option Addr) (cap : Nat) (l : List Nat) (hpos : 0 < l.length) (hl : l.length ≤ 100000) (hc : ∀ (j : Nat) x, l[j]? = some x → x < 65536 ∧ ∃ g o, a = some ⟨g, o, none⟩ ∧ w.cell? ⟨g, o + j, none⟩ = some (.int .u16 ((x : Nat) : Int))) :
    Calls Try.prog 17 #[.slice a l.length cap] w fun e w' => e = .returned (.string ⟨(ofAtoms l).toArray⟩) ∧ Chg (fun _ => False) w w' := by
  have HC0 := Lib.hid hc
  clear hc
  go_enter Try.func17, Try.ntmps17
  go_wp2
  go_loopw [3, 4] (fun lv iv wr => ∃ k : Nat, k ≤ l.length ∧ iv = .int .i64 k ∧ wr.ownsRow w.heap.size 5 1 lv (2 * k) (bcells (ofAtoms (l.take k))) ∧ Chg (fun _ => False) w wr) (fun _ iv _ => l.length - (intOf iv).toNat)
  case atStart => exact ⟨0, by omega, rfl, own_empty _ _ _ _ (Nat.le_refl _), chg_alloc _ _ _⟩
  case round =>
    obtain ⟨k, hk, rfl, ho, hc⟩ := hrel
    have HO := Lib.hid ho
    have HC := Lib.hid hc
    have hsz := hc.size
    clear ho hc
    by_cases hlt : k < l.length
    · obtain ⟨x, hx⟩ : ∃ x, l[k]? = some x := ⟨_, List.getElem?_eq_getElem hlt⟩
      obtain ⟨hx16, g, o, rfl, c0⟩ := HC0.out k x hx
      have c1 := cell_chg HC.out (fun e => e) c0
      have hgl : g < w.heap.size := World.block_lt_of_cell? w _ c0
      have TK := Lib.hid (show l.take (k + 1) = l.take k ++ [x] by
        rw [List.take_succ_eq_append_getElem hlt]
        rw [List.getElem?_eq_getElem hlt] at hx
        rw [Option.some.inj hx])
      clear c0 hx
      go_wp2
      refine wp_region_plan (N := 29) [.rd [0, 1, 2, 3, 4, 5, 6, 7, 8, 9, 10, 11, 12], .ef 13, .ef 14, .rd [15]] (fun w' => w'.cell? ⟨g, o + k, none⟩ = some (.int .u16 (x : Int))) (by kernel_rfl) (by kernel_rfl) (by kernel_rfl) (by kernel_rfl) (Nat.le_of_ble_eq_true rfl) c1 ?_
      refine plan_rd (A := ?A1) ?h1 ?h2
      case h1 =>
        intro w' hS K hK
        simp only [opsAt, List.filterMap_cons, List.filterMap_nil, List.getElem?_toArray, List.getElem?_cons_succ, List.getElem?_cons_zero]
        repeat still_step
        refine wpStill_nil ?_
        exact hK
      refine plan_ef rfl ?_
      go_wp2_with fail
      have k2 : Chg (fun _ => False) wr ((wr.alloc (.cells #[.int .u8 ((x : Int) / 256), .int .u8 ((x : Int) % 256)] 5)).drew) := (chg_alloc _ _ _).drew
      have c2 := cell_chg k2 (fun e => e) c1
      have e2 : ((wr.alloc (.cells #[.int .u8 ((x : Int) / 256), .int .u8 ((x : Int) % 256)] 5)).drew).heap[wr.heap.size]? = some (.cells #[.int .u8 ((x : Int) / 256), .int .u8 ((x : Int) % 256)] 5 (0, 0)) := obj_alloc_new _ _
      have o2 : ((wr.alloc (.cells #[.int .u8 ((x : Int) / 256), .int .u8 ((x : Int) % 256)] 5)).drew).ownsRow 0 5 1 (.slice (some ⟨wr.heap.size, 0, none⟩) 2 2) 2 [.int .u8 ((x : Int) / 256), .int .u8 ((x : Int) % 256)] := ⟨rfl, .inr ⟨wr.heap.size, 2, _, rfl, Nat.zero_le _, e2, Nat.le_refl _, by unfold maxLen; omega, rfl, rfl⟩⟩
      refine ⟨c2, ?_⟩
      have C2 := Lib.hid (HC.out.trans k2)
      have O2 := Lib.hid (own_chg HO.out k2 (fun _ _ e => e))
      have S2 := Lib.hid o2
      have hsz2 : w.heap.size ≤ ((wr.alloc (.cells #[.int .u8 ((x : Int) / 256), .int .u8 ((x : Int) % 256)] 5)).drew).heap.size := C2.out.size
      clear o2 e2 k2 c1 HO HC
      have V1 := Lib.hid (show Value.int .u8 ((x : Int) / 256) = bcell (UInt8.ofNat (x / 256)) from byte_val (x / 256) _ (by omega) (by omega))
      have V2 := Lib.hid (show Value.int .u8 ((x : Int) % 256) = bcell (UInt8.ofNat (x % 256)) from byte_val (x % 256) _ (by omega) (by omega))
      refine plan_ef rfl ?_
      refine wpList_join rfl (.tmp 12) (.tmp 25) 54 rfl 5 1 1 Try.underlying54 Try.elemByte w.heap.size _ _ _ rfl O2.out 0 _ _ _ rfl S2.out (by intro z hz; simp at hz; rcases hz with rfl | rfl <;> rfl) (by omega) (by unfold maxLen; omega) hsz2 ?_
      intro v5 w5 o5 g5
      have C5 := Lib.hid (C2.out.own O2.out (Chg.of_grown g5))
      have c5 : w5.cell? ⟨g, o + k, none⟩ = some (.int .u16 (x : Int)) := by
        refine cell_chg (Chg.of_grown g5) (fun e => ?_) c2
        have h1 := (O2.out.lt g e).1
        omega
      rw [V1.out, V2.out] at o5
      have OS := Lib.hid (show bcells (ofAtoms (l.take (k + 1))) = bcells (ofAtoms (l.take k)) ++ [bcell (UInt8.ofNat (x / 256)), bcell (UInt8.ofNat (x % 256))] by rw [TK.out, ofAtoms_snoc]; unfold bcells; rw [List.map_append]; rfl)
      rw [← OS.out] at o5
      have O5 := Lib.hid o5
      clear o5 g5
      go_wp2_with fail
      refine ⟨c5, ?_⟩
      refine plan_rd (A := ?A2) ?h3 ?h4
      case h3 =>
        intro w' hS K hK
        clear hS
        simp only [opsAt, List.filterMap_cons, List.filterMap_nil, List.getElem?_toArray, List.getElem?_cons_succ, List.getElem?_cons_zero]
        repeat still_step
        refine wpStill_nil ?_
        exact hK
      refine plan_nil ?_
      go_wp2
      go_roundw
      case rel => exact ⟨k + 1, by omega, by go_num, by rw [show 2 * (k + 1) = 2 * k + 2 from by omega]; exact O5.out, C5.out⟩
      case measure => simp [intOf]; omega
    · obtain rfl : k = l.length := by omega
      have hol := ofAtoms_length l
      have hkd : decide (l.length < l.length) = false := by simp
      rw [List.take_length] at HO
      obtain ⟨ra, rc, rfl, hrl, hcl⟩ := own_get HO.out
      unfold maxLen at hrl
      obtain ⟨g, rfl, _, _⟩ := hcl 0 _ (bcells_get (ofAtoms l) 0 (by omega))
      have hcv := run_convert_bytes_arg (P := Try.prog) wr 54 5 Try.underlying54 Try.underlying5 g 0 (2 * l.length) rc ((ofAtoms l).map fun c => (c.toNat : Int)) (by rw [List.length_map, hol])
        (fun i hi => by
          obtain ⟨g', e', _, cx⟩ := hcl i _ (bcells_get (ofAtoms l) i (by omega))
          cases e'
          rw [Nat.zero_add]; exact cx) 23 Try.underlying23
      rw [strOfNums_bytes] at hcv
      clear hcl
      go_wp2
      go_ret
      exact ⟨rfl, HC.out⟩
end Go.Proofs.Ytiidagdapckgjaa
