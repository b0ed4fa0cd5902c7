/-
  A variable of many cells, written whole; a set of one word.
-/
import Derived.Test.YtjifdfhibkipnaaGreatCLike
namespace Go.Proofs.YtjifdfhibkipnaaGreat
open Go.RowKit Go.Maps

theorem storeCells_run {P : Program} {g : Nat} {t : TypeId} : ∀ (vs : List Value) (w : World) (k : Nat) (cs : Array Value), (∀ v ∈ vs, v.oneCell' = true) → w.heap[g]? = some (.cells cs t (0, 0)) → k + vs.length ≤ cs.size →
    ∃ (W : World) (ds : Array Value), (Go.storeCells ⟨g, 0, none⟩ vs k).run P w = .ok () W ∧ W.heap[g]? = some (.cells ds t (0, 0)) ∧ Chg (· = g) w W ∧ ds.size = cs.size ∧ (∀ j, j < k → ds[j]? = cs[j]?) ∧ ∀ j, j < vs.length → ds[k + j]? = vs[j]?
  | [], w, k, cs, _, h, _ => ⟨w, cs, rfl, h, Chg.refl _ _, rfl, fun _ _ => rfl, fun j hj => by simp at hj⟩
  | v :: r, w, k, cs, h1, h, hk => by
    rw [List.length_cons] at hk
    have hst : (store (⟨g, k, none⟩ : Addr) v).run P w = .ok () (w.setCell ⟨g, k, none⟩ v) := by
      have hc : w.cell? ⟨g, k, none⟩ = some cs[k] := cell_of h (Array.getElem?_eq_getElem (by omega))
      rw [run_store P w _ v _ (h1 v List.mem_cons_self), hc]
      simp [frozen_of (o := k) h]
    obtain ⟨W, ds, q1, q2, q3, q4, q5, q6⟩ := storeCells_run r (w.setCell ⟨g, k, none⟩ v) (k + 1) (cs.setIfInBounds k v) (fun u hu => h1 u (List.mem_cons_of_mem _ hu)) (obj_setCell h v) (by simp; omega)
    refine ⟨W, ds, ?_, q2, (chg_cell w g k v).trans q3, by rw [q4]; simp, fun j hj => ?_, fun j hj => ?_⟩
    · have ha : (⟨g, 0, none⟩ : Addr).add k = ⟨g, k, none⟩ := by rw [addr_add]; simp
      unfold Go.storeCells
      rw [ha]
      simp only [Sem.run_bind, hst, Result.andThen_ok]
      exact q1
    · rw [q5 j (by omega)]
      rw [Array.getElem?_setIfInBounds]
      rw [if_neg (by omega)]
    · cases j with
      | zero =>
        rw [Nat.add_zero, q5 k (by omega), Array.getElem?_setIfInBounds, if_pos rfl, if_pos (by omega)]
        rfl
      | succ j =>
        have := q6 j (by simpa using hj)
        rw [show k + (j + 1) = k + 1 + j by omega, this]
        rfl
/-- 'x = v', x a variable of many cells. -/
theorem wpList_store_all {P : Program} {ops : Array Oper} {w : World} {Q : Exit → Act → World → Prop} {a : Act} {o : Oper} {rest : List Oper} (hgd : o.guard = none) (ty : TypeId) (x y : Operand) (ho : o.op = .store ty x y)
    (g : Nat) (hx : a.eval x = .pointer (some ⟨g, 0, none⟩)) (v : Value) (hy : a.eval y = v) (h1 : ∀ u ∈ v.cells.toList, u.oneCell' = true) (cs : Array Value) (t : TypeId) (hg : w.heap[g]? = some (.cells cs t (0, 0))) (hs : cs.size = v.cells.size) (hi : (P.info? ty).map (·.size) = some v.cells.size)
    (h : ∀ w', w'.heap[g]? = some (.cells v.cells t (0, 0)) → Chg (· = g) w w' → wpList P ops Q rest (a.put o.dst undef) w') : wpList P ops Q (o :: rest) a w := by
  refine wpList_plain hgd fun K hK => ?_
  obtain ⟨W, ds, q1, q2, q3, q4, _, q6⟩ := storeCells_run (P := P) v.cells.toList w 0 cs h1 hg (by simp; omega)
  have hd : ds = v.cells := by
    refine Array.ext' ?_
    refine List.ext_getElem? (fun j => ?_)
    rcases Nat.lt_or_ge j v.cells.toList.length with hj | hj
    · have := q6 j hj
      rw [Nat.zero_add] at this
      rw [← this]
      simp
    · rw [List.getElem?_eq_none hj, List.getElem?_eq_none (by simp at hj ⊢; omega)]
  rw [hd] at q2
  cases hq : P.info? ty with
  | none => simp [hq] at hi
  | some i =>
    have hin : i.size = v.cells.size := by simpa [hq] using hi
    unfold Oper.wp execOp
    simp only [ho, hx, hy, Instr.storeAt, Instr.sureAddr, storeVar]
    simp [sizeOf, typeInfo, hq, hin, q1]
    exact hK _ _ (h _ q2 q3)
theorem setAt_l1 (w : World) (a : ByteArray) (hs : a.size ≤ 100) : SetAt (w.alloc (.cells #[.string a] 24)) (.slice (some ⟨w.heap.size, 0, none⟩) 1 1) (fun k => k = w.heap.size) [a] :=
  ⟨⟨_, 1, rfl, by simp [maxLen], fun j x hj => ⟨_, 0, rfl, rfl, by
      have hl := (List.getElem?_eq_some_iff.1 hj).1
      obtain rfl : j = 0 := by simp at hl; omega
      simp at hj
      subst hj
      exact cell_of (obj_alloc_new _ _) rfl, by
      have := List.mem_of_getElem? hj
      rw [List.mem_singleton] at this
      subst this
      unfold maxLen; omega⟩⟩, fun n c e => by cases e⟩
theorem Tryz.sizeCert : (Tryz.prog.info? 60).map (·.size) = some 7 := by kernel_rfl
end Go.Proofs.YtjifdfhibkipnaaGreat
