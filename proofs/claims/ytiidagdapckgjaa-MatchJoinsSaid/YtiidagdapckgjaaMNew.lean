/-
  Package match: New.
-/
import Derived.Test.YtiidagdapckgjaaMPut
namespace Go.Proofs.Ytiidagdapckgjaa
open Go.RowKit Go.Maps

/-- A slice of words, to be read. -/
def WordsAt (w : World) (v : Value) (G : Nat → Prop) (l : List ByteArray) : Prop :=
  ∃ la cap, v = .slice la l.length cap ∧ l.length ≤ maxLen ∧ ∀ (j : Nat) x, l[j]? = some x → ∃ lb lo, la = some ⟨lb, lo, none⟩ ∧ G lb ∧ w.cell? ⟨lb, lo + j, none⟩ = some (.string x) ∧ x.size ≤ maxLen
theorem WordsAt.chg {S : Nat → Prop} {w w' : World} {v : Value} {G : Nat → Prop} {l : List ByteArray} (h : WordsAt w v G l) (hc : Chg S w w') (hs : ∀ k, G k → ¬ S k) : WordsAt w' v G l := by
  obtain ⟨la, cap, h1, h2, h3⟩ := h
  exact ⟨la, cap, h1, h2, fun j x hj => by obtain ⟨lb, lo, q1, q2, q3, q4⟩ := h3 j x hj; exact ⟨lb, lo, q1, q2, cell_chg hc (hs lb q2) q3, q4⟩⟩
def lists (l : List ByteArray) : List (List UInt8) := l.map fun s => s.data.toList
theorem lists_get {l : List ByteArray} {j : Nat} {x : ByteArray} (h : l[j]? = some x) : (lists l).getD j [] = x.data.toList := by
  unfold lists; rw [List.getD_eq_getElem?_getD, List.getElem?_map, h]; rfl
theorem lists_length (l : List ByteArray) : (lists l).length = l.length := by simp [lists]
theorem tree_pathsTo (l : List (List UInt8)) : ∀ n, Tree (pathsTo l n)
  | 0 => tree_root
  | n + 1 => by
    rw [pathsTo]
    split
    · exact (tree_pathsTo l n).putTo _ _ (Nat.le_refl _)
    · exact tree_pathsTo l n
theorem pathsTo_mem (l : List (List UInt8)) : ∀ n i, i < n → mayB (l.getD i []) = true → atoms (l.getD i []) ∈ pathsTo l n
  | 0, i, h, _ => by omega
  | n + 1, i, h, hm => by
    rw [pathsTo]
    rcases Nat.lt_or_ge i n with q | q
    · have ih := pathsTo_mem l n i q hm
      split
      · exact (putTo_mem _ _ _ _).2 (.inl ih)
      · exact ih
    · obtain rfl : i = n := by omega
      rw [if_pos hm]
      have := putTo_mem_take (tree_pathsTo l i) (atoms (l.getD i [])) (atoms (l.getD i [])).length
      rw [List.take_length] at this
      exact this
theorem whichTo_none (l : List (List UInt8)) (n : Nat) (q : List Nat) (h : q ∉ pathsTo l n) : whichTo l n q = [] := by
  unfold whichTo
  rw [List.filter_eq_nil_iff]
  intro i hi hc
  simp only [Bool.and_eq_true, beq_iff_eq] at hc
  exact h (hc.2 ▸ pathsTo_mem l n i (List.mem_range.1 hi) hc.1)
theorem whichTo_length (l : List (List UInt8)) (n : Nat) (q : List Nat) : (whichTo l n q).length ≤ n := by
  have := List.length_filter_le (fun i => mayB (l.getD i []) && (atoms (l.getD i []) == q)) (List.range n)
  simpa [whichTo] using this
theorem whichTo_yes (l : List (List UInt8)) (n : Nat) (hm : mayB (l.getD n []) = true) : whichTo l (n + 1) = fun q => if q = atoms (l.getD n []) then whichTo l n q ++ [n] else whichTo l n q := by
  funext q
  unfold whichTo
  rw [List.range_succ, List.filter_append]
  by_cases e : q = atoms (l.getD n [])
  · rw [if_pos e]; simp only [List.filter_cons, hm, e, beq_self_eq_true, Bool.and_self, if_true, List.filter_nil]
  · rw [if_neg e]
    have : (atoms (l.getD n []) == q) = false := by rw [beq_eq_false_iff_ne]; exact fun h => e h.symm
    simp only [List.filter_cons, hm, this, Bool.and_false, Bool.false_eq_true, if_false, List.filter_nil, List.append_nil]
theorem whichTo_no (l : List (List UInt8)) (n : Nat) (hm : mayB (l.getD n []) = false) : whichTo l (n + 1) = whichTo l n := by
  funext q
  unfold whichTo
  rw [List.range_succ, List.filter_append]
  simp only [List.filter_cons, hm, Bool.false_and, Bool.false_eq_true, if_false, List.filter_nil, List.append_nil]
theorem pathsTo_length (l : List (List UInt8)) : ∀ n, (pathsTo l n).length ≤ 1 + 8 * n
  | 0 => by simp [pathsTo]
  | n + 1 => by
    have ih := pathsTo_length l n
    rw [pathsTo]
    split
    · rename_i hm
      have h8 : (atoms (l.getD n [])).length ≤ 8 := by rw [atoms_length]; exact ((mayB_iff _).1 hm).2.2.1
      have := putTo_length (pathsTo l n) (atoms (l.getD n [])) (atoms (l.getD n [])).length
      unfold putP; omega
    · omega
theorem mach_start (w : World) (n : Nat) (l : List (List UInt8)) :
    MachAt ((w.alloc (.cells #[.map none, .slice none 0 0] 59)).alloc (.cells #[.slice (some ⟨w.heap.size, 0, none⟩) 1 1, .int .i64 (n : Int)] 47)) w.heap.size ⟨w.heap.size + 1, w.heap.size, 1, n⟩ [(.map none, .slice none 0 0)] (pathsTo l 0) (whichTo l 0) := by
  have e1 : ((w.alloc (.cells #[.map none, .slice none 0 0] 59)).alloc (.cells #[.slice (some ⟨w.heap.size, 0, none⟩) 1 1, .int .i64 (n : Int)] 47)).heap[w.heap.size]? = some (.cells #[.map none, .slice none 0 0] 59 (0, 0)) := obj_alloc _ (obj_alloc_new _ _)
  have e2 : ((w.alloc (.cells #[.map none, .slice none 0 0] 59)).alloc (.cells #[.slice (some ⟨w.heap.size, 0, none⟩) 1 1, .int .i64 (n : Int)] 47)).heap[w.heap.size + 1]? = some (.cells #[.slice (some ⟨w.heap.size, 0, none⟩) 1 1, .int .i64 (n : Int)] 47 (0, 0)) := by
    have := obj_alloc_new (w.alloc (.cells #[.map none, .slice none 0 0] 59)) (.cells #[.slice (some ⟨w.heap.size, 0, none⟩) 1 1, .int .i64 (n : Int)] 47)
    simpa using this
  have one : ∀ (k : Nat) p c, (pathsTo l 0)[k]? = some p → [((.map none : Value), (.slice none 0 0 : Value))][k]? = some c → p = [] ∧ c = (.map none, .slice none 0 0) := by
    intro k p c h1 h2
    rcases k with _ | k
    · simp [pathsTo] at h1 h2; exact ⟨h1, h2.symm⟩
    · simp at h2
  have blk : ∀ (i : Nat) u, (flat [((.map none : Value), (.slice none 0 0 : Value))])[i]? = some u → blockOf u = none := by
    intro i u h
    have := List.mem_of_getElem? h
    simp [flat] at this
    rcases this with rfl | rfl <;> rfl
  refine ⟨e2, ⟨by simp [flat], .inr ⟨w.heap.size, 1, _, rfl, Nat.le_refl _, e1, Nat.le_refl _, by unfold maxLen; omega, rfl, rfl⟩⟩, rfl, ?_, ?_, ?_, ?_, by show w.heap.size + 1 ≠ w.heap.size; omega, by show w.heap.size ≤ w.heap.size + 1; omega⟩
  · intro k p c h1 h2
    obtain ⟨rfl, rfl⟩ := one k p c h1 h2
    exact .inl ⟨rfl, fun a _ => by simp [edges, pathsTo]⟩
  · intro k p c h1 h2
    obtain ⟨rfl, rfl⟩ := one k p c h1 h2
    exact World.ownsRow_nil _ _ _ _
  · intro i j x u v h1 h2 h3
    rw [blk i u h1] at h3; cases h3
  · intro i u h
    rw [blk i u h]; exact ⟨(fun q => by cases q), (fun q => by cases q)⟩

theorem new_any (w : World) (v : Value) (l : List ByteArray) (hv : WordsAt w v (· < w.heap.size) l) (hl : l.length ≤ 110) (hs : ∀ x ∈ l, x.size ≤ 400) :
    Calls Try.prog 10 #[v] w fun e w' => ∃ B cs, e = .returned (.pointer (some ⟨B.b, 0, none⟩)) ∧ B.nw = l.length ∧ MachAt w' w.heap.size B cs (pathsTo (lists l) l.length) (whichTo (lists l) l.length) ∧ Chg (fun _ => False) w w' := by
  obtain ⟨la, cap, rfl, _, hl3⟩ := hv
  have HL3 := Lib.hid hl3
  have HS := Lib.hid hs
  clear hl3 hs
  have hmk : ∀ w : World, (Instr.makeSlice 45 (.int .i64 1) (.int .i64 1)).run Try.prog w = .ok (.slice (some ⟨w.heap.size, 0, none⟩) 1 1) (w.alloc (.cells #[.map none, .slice none 0 0] 59)) := fun _ => by kernel_rfl
  have MS := Lib.hid (mach_start w l.length (lists l))
  have CS := Lib.hid (((chg_alloc (fun _ => False) w (.cells #[.map none, .slice none 0 0] 59))).alloc (.cells #[.slice (some ⟨w.heap.size, 0, none⟩) 1 1, .int .i64 (l.length : Int)] 47))
  go_enter Try.func10, Try.ntmps10
  go_wp2
  go_loopw [13] (fun iv wr => ∃ (k : Nat) (B : MB) (cs : List (Value × Value)), k ≤ l.length ∧ iv = .int .i64 k ∧ B.b = w.heap.size + 1 ∧ B.nw = l.length ∧ MachAt wr w.heap.size B cs (pathsTo (lists l) k) (whichTo (lists l) k) ∧ Chg (fun _ => False) w wr) (fun iv _ => l.length - (intOf iv).toNat)
  case atStart => exact ⟨0, ⟨w.heap.size + 1, w.heap.size, 1, l.length⟩, _, by omega, rfl, rfl, rfl, MS.out, CS.out⟩
  case round =>
    obtain ⟨k, B, cs, hk, rfl, hb, hw, hm, hc⟩ := hrel
    have HB := Lib.hid hb
    have HW := Lib.hid hw
    have HM := Lib.hid hm
    have HC := Lib.hid hc
    clear hb hw hm hc MS CS
    by_cases hlt : k < l.length
    · obtain ⟨x, hx⟩ : ∃ x, l[k]? = some x := ⟨_, List.getElem?_eq_getElem hlt⟩
      obtain ⟨lb, lo, rfl, hlb, c0, _⟩ := HL3.out k x hx
      have c1 := cell_chg HC.out (fun e => e) c0
      have hx4 := HS.out x (List.mem_of_getElem? hx)
      have GX := Lib.hid (lists_get hx)
      clear c0 hx
      have MAY := Lib.hid (fun w => wmay_any w x (by unfold maxLen; omega))
      by_cases hm : mayB x.data.toList = true
      · rw [hm] at MAY
        have PN := Lib.hid (show pathsTo (lists l) (k + 1) = putP (pathsTo (lists l) k) (atoms x.data.toList) by rw [pathsTo, GX.out, if_pos hm])
        have WN := Lib.hid (show whichTo (lists l) (k + 1) = fun q => if q = atoms x.data.toList then whichTo (lists l) k q ++ [k] else whichTo (lists l) k q by
          have := whichTo_yes (lists l) k (by rw [GX.out]; exact hm)
          rw [GX.out] at this; exact this)
        have hpl := pathsTo_length (lists l) k
        go_wp2_with fail
        refine (MAY.out wr).mono ?_
        rintro e w1 ⟨rfl, k1⟩
        have M1 := Lib.hid (HM.out.chg k1)
        have C1 := Lib.hid (HC.out.trans k1)
        have PUT := Lib.hid (put_any w1 w.heap.size B cs (pathsTo (lists l) k) (whichTo (lists l) k) k x M1.out (tree_pathsTo (lists l) k) hx4 (by omega) (fun q hq => whichTo_none (lists l) k q hq) (by have := whichTo_length (lists l) k (atoms x.data.toList); omega))
        rw [HB.out] at PUT
        clear k1 hm HM HC
        go_wp2_with fail
        refine (PUT.out).mono ?_
        rintro e w2 ⟨rfl, B', cs', hb', hw', m2, k2⟩
        have M2 := Lib.hid m2
        have C2 := Lib.hid (show Chg (fun _ => False) w w2 from ⟨k2.os.trans C1.out.os, k2.tape.trans C1.out.tape, k2.output.trans C1.out.output, Nat.le_trans C1.out.size k2.size, fun i hi _ => by rw [k2.block i (by have := C1.out.size; omega) (by omega)]; exact C1.out.block i hi (fun e => e)⟩)
        have HB2 := Lib.hid hb'
        have HW2 := Lib.hid hw'
        clear hb' hw' m2 k2
        go_wp2
        go_roundw
        case rel => exact ⟨k + 1, B', cs', by omega, by go_num, HB2.out, HW2.out.trans HW.out, by rw [PN.out, WN.out]; exact M2.out, C2.out⟩
        case measure => simp [intOf]; omega
      · have hm : mayB x.data.toList = false := by simpa using hm
        rw [hm] at MAY
        have PN := Lib.hid (show pathsTo (lists l) (k + 1) = pathsTo (lists l) k by rw [pathsTo, GX.out, hm]; rfl)
        have WN := Lib.hid (whichTo_no (lists l) k (by rw [GX.out]; exact hm))
        go_wp2_with fail
        refine (MAY.out wr).mono ?_
        rintro e w1 ⟨rfl, k1⟩
        have M1 := Lib.hid (HM.out.chg k1)
        have C1 := Lib.hid (HC.out.trans k1)
        clear k1 hm
        go_wp2
        go_roundw
        case rel => exact ⟨k + 1, B, cs, by omega, by go_num, HB.out, HW.out, by rw [PN.out, WN.out]; exact M1.out, C1.out⟩
        case measure => simp [intOf]; omega
    · obtain rfl : k = l.length := by omega
      go_wp2
      go_ret
      exact ⟨B, cs, by rw [HB.out]; rfl, HW.out, HM.out, HC.out⟩
end Go.Proofs.Ytiidagdapckgjaa
