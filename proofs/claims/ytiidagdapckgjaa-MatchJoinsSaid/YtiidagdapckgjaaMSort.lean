/-
  slices.Sort at []int: by the shelf's contract, over a row of the call's own.
-/
import Derived.Test.YtiidagdapckgjaaMNew
import Derived.Ground.NamesProg
import Derived.Shelf.Lay
import Derived.Shelf.Sort.Plain
import Derived.Shelf.Slices.In.SortNone
namespace Go.Proofs
open Go.Shelf
shelf_lay Lays.n189 Nm 189 at Try as Try.laysSort
end Go.Proofs
namespace Go.Proofs.Ytiidagdapckgjaa
open Go.RowKit Go.Shelf Go.Sort

def sorted (l : List Nat) : List Nat := l.mergeSort fun x y => decide (x ≤ y)
theorem sorted_perm (l : List Nat) : (sorted l).Perm l := List.mergeSort_perm l _
theorem sorted_length (l : List Nat) : (sorted l).length = l.length := (sorted_perm l).length_eq
theorem sorted_pairwise (l : List Nat) : (sorted l).Pairwise (· ≤ ·) := by
  have := List.pairwise_mergeSort (le := fun x y : Nat => decide (x ≤ y)) (fun a b c => by simp; omega) (fun a b => by simp; omega) l
  exact this.imp (fun h => by simpa using h)
theorem sorted_ints (l : List Nat) : ((l.map fun (n : Nat) => (n : Int)).mergeSort fun x y => decide (x ≤ y)).map (Value.int .i64) = ints (sorted l) := by
  unfold sorted ints
  rw [← List.map_mergeSort (r := fun x y : Nat => decide (x ≤ y)) (s := fun x y : Int => decide (x ≤ y)) (f := fun (n : Nat) => (n : Int)) (fun a _ b _ => by rw [decide_eq_decide]; omega), List.map_map]; rfl
theorem run_sort_row {w : World} {g n : Nat} {e : TypeId} {cur : Array Value} (ys : List Int) (hg : w.heap[g]? = some (.cells cur e (0, 0))) (hy : ys.length = n) (hc : n ≤ cur.size) (q : Nat) (os : Array Obj) :
    (grow (putRow (Value.int .i64) (Sort.ahead w q) g 0 ys.toArray) os).heap[g]? = some (.cells ((ys.map (Value.int .i64)) ++ cur.toList.drop n).toArray e (0, 0)) ∧ Chg (· = g) w (grow (putRow (Value.int .i64) (Sort.ahead w q) g 0 ys.toArray) os) := by
  have hlt := lt_of_obj hg
  have h1 : (putRow (Value.int .i64) (Sort.ahead w q) g 0 ys.toArray).heap[g]? = some (.cells (putCells (Value.int .i64) 0 ys.toArray cur) e (0, 0)) := by
    show (w.heap.modify g (onCells _))[g]? = _
    rw [Array.getElem?_modify, if_pos rfl, hg]; rfl
  have h2 : putCells (Value.int .i64) 0 ys.toArray cur = ((ys.map (Value.int .i64)) ++ cur.toList.drop n).toArray := by
    apply Array.ext
    · simp [putCells]; omega
    · intro i h3 h4
      simp only [putCells, Array.size_mapIdx] at h3
      simp only [putCells, Array.getElem_mapIdx, List.getElem_toArray]
      by_cases hi : i < n
      · rw [if_pos ⟨by omega, by simp; omega⟩, List.getElem_append_left (by simp; omega)]
        simp [hy, hi]
      · rw [if_neg (by simp; omega), List.getElem_append_right (by simp; omega)]
        simp [hy]
        congr 1; omega
  refine ⟨?_, ?_⟩
  · rw [heap_grow_old _ os (by rw [size_putRow]; exact hlt), h1, h2]
  · have hz := size_putRow (Value.int .i64) (Sort.ahead w q) g 0 ys.toArray
    refine ⟨rfl, rfl, rfl, by rw [grow, Array.size_append, hz]; show w.heap.size ≤ w.heap.size + os.size; omega, fun k hk hne => ?_⟩
    rw [heap_grow_old _ os (by rw [size_putRow]; exact hk)]
    show (w.heap.modify g (onCells _))[k]? = _
    rw [Array.getElem?_modify, if_neg (fun e => hne e.symm)]
theorem sort_own (w : World) (base : Nat) (v : Value) (l : List Nat) (h : w.ownsRow base 3 1 v l.length (ints l)) (hl : l.length ≤ 1000000) :
    Calls Try.prog 25 #[v] w fun e w' => e = .returned (.tuple #[]) ∧ w'.ownsRow base 3 1 v l.length (ints (sorted l)) ∧ Chg (fun x => v.ownBlock = some x) w w' := by
  have h0 := h
  obtain ⟨h1, ⟨rfl, h2⟩ | ⟨g, cap, cur, rfl, hg, hh, q1, q2, q3, q4⟩⟩ := h
  · refine (Any.slices_Sort_int_none Try.laysSort none 0 w).mono ?_
    rintro e w' ⟨rfl, rfl⟩
    have : l = [] := List.eq_nil_of_length_eq_zero h2
    subst this
    exact ⟨rfl, by simpa [sorted] using h0, Chg.refl _ _⟩
  · have hcs : cur.size = cap := by omega
    have e1 : (l.map fun (n : Nat) => (n : Int)).length = l.length := List.length_map ..
    have hH : Holds (Value.int .i64) w g 0 (l.map fun (n : Nat) => (n : Int)).toArray := by
      intro j hj
      have hj : j < l.length := by simpa using hj
      refine ⟨?_, frozen_of hh⟩
      rw [Nat.zero_add]
      have := h0.cellAt (j := j) (by omega)
      rw [this]
      unfold ints
      rw [List.getElem?_map, List.getElem?_eq_getElem hj, getElem!_pos _ j (by simpa using hj)]
      simp
    have hs := Any.slices_Sort_int Try.laysSort g 0 cap (l.map fun (n : Nat) => (n : Int)) w hH (lt_of_obj hh) (by rw [e1]; omega)
    rw [e1] at hs
    refine Calls.mono hs ?_
    rintro e w' ⟨rfl, q, os, rfl⟩
    have hyl : ((l.map fun (n : Nat) => (n : Int)).mergeSort fun x y => decide (x ≤ y)).length = l.length := by rw [List.length_mergeSort, e1]
    obtain ⟨r1, r2⟩ := run_sort_row _ hh hyl (by omega) q os
    rw [sorted_ints] at r1
    have il : (ints (sorted l)).length = l.length := by unfold ints; rw [List.length_map, sorted_length]
    refine ⟨rfl, ⟨by rw [il]; omega, .inr ⟨g, cap, _, rfl, hg, r1, q1, q2, ?_, ?_⟩⟩, r2.mono (fun x _ e => by rw [e]; rfl)⟩
    · simp [il]; omega
    · rw [Nat.mul_one, List.take_append_of_le_length (by rw [il]; exact Nat.le_refl _), List.take_of_length_le (by rw [il]; exact Nat.le_refl _)]
end Go.Proofs.Ytiidagdapckgjaa
