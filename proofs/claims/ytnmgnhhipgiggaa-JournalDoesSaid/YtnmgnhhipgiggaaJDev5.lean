/-
  The device of package journal: Device.
-/
import Derived.Test.YtnmgnhhipgiggaaJDev4
namespace Go.Proofs.Ytnmgnhhipgiggaa
open Go.RowKit

theorem madeCells_one (z : Value) (n : Nat) : madeCells #[z] n = (reps n z).toArray := by
  unfold madeCells reps
  apply Array.ext
  · simp
  · intro i h1 h2; simp [Nat.mod_one]
theorem madeCells_same (z : Value) (k n : Nat) (hk : 0 < k) : madeCells (Array.replicate k z) n = (reps n z).toArray := by
  unfold madeCells reps
  apply Array.ext
  · simp
  · intro i h1 h2
    have hm : i % k < k := Nat.mod_lt _ hk
    simp [getElem!_pos, hm]
theorem secs_new (n : Nat) : secs (List.replicate n zsec) = reps (n * 32) (.int .u8 0) := by
  unfold secs zsec reps
  rw [List.flatten_replicate_replicate]
  simp [bcells, bcell]

theorem Try.make60 (w : World) (n : Nat) (hn : n ≤ 65) : (Instr.makeSlice 60 (.int .i64 n) (.int .i64 n)).run Try.prog w = .ok (.slice (some ⟨w.heap.size, 0, none⟩) n n) (w.alloc (.cells (secs (List.replicate n zsec)).toArray 71)) := by
  obtain ⟨i, hi, hz0, hz1, hz2⟩ := info_parts (show (Try.prog.info? 71).map (fun i => (i.zero, i.size, i.bytes)) = some (some (.agg (Array.replicate 32 (.int .u8 0))), 32, 32) by kernel_rfl)
  have := run_make (P := Try.prog) w 60 71 i _ Try.underlying60 hi hz0 .i64 .i64 n n (by omega) (by omega) (by rw [hz2]; omega) (by omega)
  rw [this, hz1]
  simp only [Int.toNat_natCast, Value.cells]
  rw [madeCells_same _ _ _ (by decide), secs_new]
theorem Try.make35 (w : World) (n : Nat) (hn : n ≤ 65) : (Instr.makeSlice 35 (.int .i64 n) (.int .i64 n)).run Try.prog w = .ok (.slice (some ⟨w.heap.size, 0, none⟩) n n) (w.alloc (.cells (bools (List.replicate n false)).toArray 4)) := by
  obtain ⟨i, hi, hz0, hz1, hz2⟩ := info_parts (show (Try.prog.info? 4).map (fun i => (i.zero, i.size, i.bytes)) = some (some (.bool false), 1, 1) by kernel_rfl)
  have := run_make (P := Try.prog) w 35 4 i _ Try.underlying35 hi hz0 .i64 .i64 n n (by omega) (by omega) (by rw [hz2]; omega) (by omega)
  rw [this, hz1]
  simp only [Int.toNat_natCast, Value.cells, Nat.mul_one]
  rw [madeCells_one]
  simp [bools, reps]

theorem device_none (w : World) (n : Int) (h : n < 3 ∨ 65 < n) :
    Calls Try.prog 9 #[.int .i64 n] w fun e w' => e = .returned (.pointer none) ∧ w = w' := by
  by_cases h3 : n < 3
  · clear h
    go_enter Try.func9, Try.ntmps9
    go_wp2
    go_ret
    exact ⟨rfl, rfl⟩
  · have h65 : 65 < n := by omega
    have hd : decide (n < 3) = false := by simp; omega
    clear h
    go_enter Try.func9, Try.ntmps9
    go_wp2
    go_ret
    exact ⟨rfl, rfl⟩

theorem four1 (w : World) (a b c d : Obj) : ((((w.alloc a).alloc b).alloc c).alloc d).drew.heap[w.heap.size]? = some a := obj_alloc d (obj_alloc c (obj_alloc b (obj_alloc_new w a)))
theorem four2 (w : World) (a b c d : Obj) : ((((w.alloc a).alloc b).alloc c).alloc d).drew.heap[w.heap.size + 1]? = some b := obj_alloc d (obj_alloc c (by simpa using obj_alloc_new (w.alloc a) b))
theorem four3 (w : World) (a b c d : Obj) : ((((w.alloc a).alloc b).alloc c).alloc d).drew.heap[w.heap.size + 1 + 1]? = some c := obj_alloc d (by simpa using obj_alloc_new ((w.alloc a).alloc b) c)
theorem four4 (w : World) (a b c d : Obj) : ((((w.alloc a).alloc b).alloc c).alloc d).drew.heap[w.heap.size + 1 + 1 + 1]? = some d := by
  show (((w.alloc a).alloc b).alloc c |>.alloc d).heap[_]? = _
  simpa using obj_alloc_new (((w.alloc a).alloc b).alloc c) d
theorem dev_of {w w' : World} {bn bs bp n : Nat} (hc : Chg (fun _ => False) w w')
    (h1 : w'.heap[bn]? = some (.cells (secs (List.replicate n zsec)).toArray 71 (0, 0))) (h2 : w'.heap[bs]? = some (.cells (secs (List.replicate n zsec)).toArray 71 (0, 0)))
    (h3 : w'.heap[bp]? = some (.cells (bools (List.replicate n false)).toArray 4 (0, 0)))
    (h0 : w'.heap[w.heap.size + 1 + 1 + 1]? = some (.cells #[.slice (some ⟨bn, 0, none⟩) n n, .slice (some ⟨bs, 0, none⟩) n n, .slice (some ⟨bp, 0, none⟩) n n, .int .i64 0, .bool false, .bool false] 62 (0, 0)))
    (hn : 3 ≤ n) (hn' : n ≤ 65) (q1 : bn ≠ bs) (q2 : bn ≠ bp) (q3 : bs ≠ bp)
    (q4 : bn < w.heap.size + 3 ∧ bs < w.heap.size + 3 ∧ bp < w.heap.size + 3 ∧ w.heap.size ≤ bn ∧ w.heap.size ≤ bs ∧ w.heap.size ≤ bp) :
    ∃ B : DB, Ending.returned (.pointer (some ⟨w.heap.size + 1 + 1 + 1, 0, none⟩)) = .returned B.ptr ∧ B.n = n ∧ DevAt w' B (Dev.new n) ∧ Chg (fun _ => False) w w' ∧ ∀ k, B.S k → w.heap.size ≤ k ∧ k < w'.heap.size := by
  have l := lt_of_obj h0
  refine ⟨⟨w.heap.size + 1 + 1 + 1, bn, bs, bp, n⟩, rfl, rfl, ⟨h0, h1, h2, h3, Dev.ok_new n hn hn', ?_, ?_, ?_, q1, q2, q3⟩, hc, ?_⟩
  · show w.heap.size + 1 + 1 + 1 ≠ bn; omega
  · show w.heap.size + 1 + 1 + 1 ≠ bs; omega
  · show w.heap.size + 1 + 1 + 1 ≠ bp; omega
  · rintro k (h | h | h | h) <;> dsimp only at h <;> omega
theorem device_some (w : World) (n : Nat) (h3 : 3 ≤ n) (h65 : n ≤ 65) :
    Calls Try.prog 9 #[.int .i64 n] w fun e w' => ∃ B : DB, e = .returned B.ptr ∧ B.n = n ∧ DevAt w' B (Dev.new n) ∧ Chg (fun _ => False) w w' ∧ ∀ k, B.S k → w.heap.size ≤ k ∧ k < w'.heap.size := by
  have m60 := fun w => Try.make60 w n h65
  have m35 := fun w => Try.make35 w n h65
  have hd : decide ((n : Int) < 3) = false := by simp; omega
  have hd' : decide (65 < (n : Int)) = false := by simp; omega
  go_enter Try.func9, Try.ntmps9
  go_wp2
  go_region
  all_goals go_wp2
  all_goals go_ret
  · exact dev_of (bn := w.heap.size) (bs := w.heap.size + 1) (bp := w.heap.size + 1 + 1) (Chg.alloc (Chg.alloc (Chg.alloc (Chg.alloc (Chg.refl _ _) _) _) _) _).drew (four1 _ _ _ _ _) (four2 _ _ _ _ _) (four3 _ _ _ _ _) (four4 _ _ _ _ _) h3 h65 (by omega) (by omega) (by omega) (by simp; omega)
  · exact dev_of (bn := w.heap.size) (bp := w.heap.size + 1) (bs := w.heap.size + 1 + 1) (Chg.alloc (Chg.alloc (Chg.alloc (Chg.alloc (Chg.refl _ _) _) _) _) _).drew (four1 _ _ _ _ _) (four3 _ _ _ _ _) (four2 _ _ _ _ _) (four4 _ _ _ _ _) h3 h65 (by omega) (by omega) (by omega) (by simp; omega)
  · exact dev_of (bs := w.heap.size) (bn := w.heap.size + 1) (bp := w.heap.size + 1 + 1) (Chg.alloc (Chg.alloc (Chg.alloc (Chg.alloc (Chg.refl _ _) _) _) _) _).drew (four2 _ _ _ _ _) (four1 _ _ _ _ _) (four3 _ _ _ _ _) (four4 _ _ _ _ _) h3 h65 (by omega) (by omega) (by omega) (by simp; omega)
  · exact dev_of (bs := w.heap.size) (bp := w.heap.size + 1) (bn := w.heap.size + 1 + 1) (Chg.alloc (Chg.alloc (Chg.alloc (Chg.alloc (Chg.refl _ _) _) _) _) _).drew (four3 _ _ _ _ _) (four1 _ _ _ _ _) (four2 _ _ _ _ _) (four4 _ _ _ _ _) h3 h65 (by omega) (by omega) (by omega) (by simp; omega)
  · exact dev_of (bp := w.heap.size) (bn := w.heap.size + 1) (bs := w.heap.size + 1 + 1) (Chg.alloc (Chg.alloc (Chg.alloc (Chg.alloc (Chg.refl _ _) _) _) _) _).drew (four2 _ _ _ _ _) (four3 _ _ _ _ _) (four1 _ _ _ _ _) (four4 _ _ _ _ _) h3 h65 (by omega) (by omega) (by omega) (by simp; omega)
  · exact dev_of (bp := w.heap.size) (bs := w.heap.size + 1) (bn := w.heap.size + 1 + 1) (Chg.alloc (Chg.alloc (Chg.alloc (Chg.alloc (Chg.refl _ _) _) _) _) _).drew (four3 _ _ _ _ _) (four2 _ _ _ _ _) (four1 _ _ _ _ _) (four4 _ _ _ _ _) h3 h65 (by omega) (by omega) (by omega) (by simp; omega)
end Go.Proofs.Ytnmgnhhipgiggaa
