/-
  A variable of many cells, written whole; a set of one word.
-/
import Derived.Test.YtjifdfhibkipnaaGreatCLike
namespace Go.Proofs.YtjifdfhibkipnaaGreat
open Go.RowKit Go.Maps

theorem setAt_l1 (w : World) (a : ByteArray) (hs : a.size ≤ 100) : SetAt (w.alloc (.cells #[.string a] 24)) (.slice (some ⟨w.heap.size, 0, none⟩) 1 1) (fun k => k = w.heap.size) [a] :=
  ⟨⟨_, 1, rfl, by simp [maxLen], fun j x hj => ⟨_, 0, rfl, rfl, by
      have hl := (List.getElem?_eq_some_iff.1 hj).1
      obtain rfl : j = 0 := by simp at hl; omega
      simp at hj
      subst hj
      exact cell_of (obj_alloc_new _ _) rfl, by
      have := List.mem_of_getElem? hj
      rw [List.mem_singleton] at this
      subst this
      unfold maxLen; omega⟩⟩, fun n c e => by cases e⟩
theorem Tryz.sizeCert : (Tryz.prog.info? 60).map (·.size) = some 7 := by kernel_rfl
end Go.Proofs.YtjifdfhibkipnaaGreat
