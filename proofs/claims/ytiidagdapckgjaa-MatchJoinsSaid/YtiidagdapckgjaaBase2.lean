/-
  Rows whose first cells are known; appends, and where the row lies behind them; a store of one cell.
-/
import Derived.Test.YtiidagdapckgjaaBase
import Derived.Test.YtiidagdapckgjaaPlan
import Derived.Test.YtiidagdapckgjaaPlan2
import Derived.Lib.ConvBytes
import Derived.Laws.BytesString
import Derived.Laws.IdiomStrings
namespace Go.Proofs.Ytiidagdapckgjaa
open Go.RowKit

/-- A row whose first cells are known. -/
def RowAt (w : World) (g : Nat) (t : TypeId) (xs : List Value) : Prop := ∃ rest : List Value, w.heap[g]? = some (.cells (xs ++ rest).toArray t (0, 0))
theorem RowAt.cell {w : World} {g : Nat} {t : TypeId} {xs : List Value} (h : RowAt w g t xs) {i : Nat} {v : Value} (hv : xs[i]? = some v) : w.cell? ⟨g, i, none⟩ = some v := by
  obtain ⟨rest, h⟩ := h
  refine cell_of h ?_
  have hi : i < xs.length := (List.getElem?_eq_some_iff.1 hv).1
  rw [List.getElem?_toArray, List.getElem?_append_left hi]; exact hv
theorem RowAt.frozen {w : World} {g : Nat} {t : TypeId} {xs : List Value} (h : RowAt w g t xs) (i : Nat) : w.frozen? ⟨g, i, none⟩ = false := by
  obtain ⟨rest, h⟩ := h
  exact frozen_of h
theorem RowAt.lt {w : World} {g : Nat} {t : TypeId} {xs : List Value} (h : RowAt w g t xs) : g < w.heap.size := by
  obtain ⟨rest, h⟩ := h
  exact lt_of_obj h
theorem RowAt.chg {S : Nat → Prop} {w w' : World} {g : Nat} {t : TypeId} {xs : List Value} (h : RowAt w g t xs) (hc : Chg S w w') (hs : ¬ S g) : RowAt w' g t xs := by
  obtain ⟨rest, h⟩ := h
  exact ⟨rest, hc.obj hs h⟩
theorem RowAt.set {w : World} {g : Nat} {t : TypeId} {xs : List Value} (h : RowAt w g t xs) {i : Nat} (hi : i < xs.length) (v : Value) : RowAt (w.setCell ⟨g, i, none⟩ v) g t (xs.set i v) := by
  obtain ⟨rest, h⟩ := h
  refine ⟨rest, ?_⟩
  rw [obj_setCell h]
  simp [List.set_append_left _ _ hi]
theorem rowAt_own {w : World} {base : Nat} {e : TypeId} {v : Value} {n : Nat} {xs : List Value} (h : w.ownsRow base e 1 v n xs) (hn : 0 < n) :
    ∃ g cap, v = .slice (some ⟨g, 0, none⟩) n cap ∧ base ≤ g ∧ RowAt w g e xs := by
  obtain ⟨h1, h2 | ⟨g, cap, cur, rfl, hg, hh, q1, q2, q3, q4⟩⟩ := h
  · omega
  · refine ⟨g, cap, rfl, hg, cur.toList.drop n, ?_⟩
    rw [hh]
    have : xs ++ cur.toList.drop n = cur.toList := by rw [← q4, Nat.mul_one, List.take_append_drop]
    rw [this, Array.toArray_toList]

/-- Where the slice's row lies behind an append: where it lay, or it is new. -/
def SameOrNew (w : World) (v v' : Value) : Prop := v'.ownBlock = v.ownBlock ∨ ∀ k, v'.ownBlock = some k → w.heap.size ≤ k
theorem run_append_fresh {P : Program} (w : World) (base : Nat) (t ty e : TypeId) (i : TypeInfo) (z : Value) (size bytes : Nat) (ht : P.underlying t = some (.slice e)) (hi : P.info? e = some i) (hz : i.zero = some z)
    (hsize : i.size = size) (hby : i.bytes = bytes) (hzs : z.cells.size = size) (hsz : 0 < size)
    (v : Value) (n : Nat) (xs : List Value) (hown : w.ownsRow base e size v n xs)
    (a : Addr) (m c : Nat) (news : List Value) (hl : news.length = m * size) (hnews : ∀ j u, news[j]? = some u → w.cell? (a.add j) = some u) (h1 : ∀ u ∈ news, u.oneCell' = true)
    (h63 : n + m ≤ maxLen) (hbytes : (n + m) * bytes ≤ 140737488355328) (hbase : base ≤ w.heap.size) :
    ∃ v' w', (Builtin.append_ #[t, t] ty #[v, .slice (some a) m c]).run P w = .ok v' w' ∧ w'.ownsRow base e size v' (n + m) (xs ++ news) ∧ w.grownBy w' v.ownBlock ∧ SameOrNew w v v' := by
  obtain ⟨v', w', hr, r1, r2, _⟩ := run_append_own (P := P) w base t ty e i z size bytes ht hi hz hsize hby hzs hsz v n xs hown a m c news hl hnews h1 h63 hbytes hbase
  refine ⟨v', w', hr, r1, r2, ?_⟩
  have hown0 := hown
  rcases hown.2 with ⟨rfl, rfl⟩ | ⟨g, cap, cur, rfl, hbg, hg, hnc, hcm, hcs, htake⟩
  · have hx : xs = [] := List.eq_nil_of_length_eq_zero (by simpa using hown.1)
    subst hx
    obtain ⟨v2, w2, hr2, q1, _, _⟩ := run_append_own (P := P) w w.heap.size t ty e i z size bytes ht hi hz hsize hby hzs hsz (.slice none 0 0) 0 [] (World.ownsRow_nil _ _ _ _) a m c news hl hnews h1 h63 hbytes (Nat.le_refl _)
    rw [hr] at hr2
    cases hr2
    exact .inr fun k hk => (q1.lt k hk).1
  · subst hsize
    subst hby
    by_cases hroom : n + m ≤ cap
    · have hfit : n * i.size + news.length ≤ cur.size := by rw [hl, hcs, ← Nat.add_mul]; exact Nat.mul_le_mul_right _ hroom
      have hr2 := run_append_room (P := P) w t ty e i ht hi g n cap cur hg a m c news hl hnews h1 hroom hfit
      rw [hr] at hr2
      cases hr2
      exact .inl rfl
    · have hr2 := run_append_grow (P := P) w t ty e i z ht hi hz ⟨g, 0, none⟩ n cap xs hown0.1 (hown0.cells (g := g) rfl) a m c news hl hnews (by omega) (by simp only [maxLen] at h63; omega) (growslice_fits (by omega) hbytes)
      rw [hr] at hr2
      cases hr2
      exact .inr fun k hk => by simp [Value.ownBlock] at hk; omega
/-- 'append(s, x)' of one element, and where the row lies behind it. -/
theorem wpList_pushF {P : Program} {w : World} {ops : Array Oper} {rest : List Oper} {o : Oper} {a : Act} {Q : Exit → Act → World → Prop} (hgd : o.guard = none) (s x : Operand) (t : TypeId)
    (ho : o.op = .call { callee := .builtin .append, args := #[s, x], argTypes := #[t, t] }) (e : TypeId) (size bytes : Nat) (ht : P.underlying t = some (.slice e)) (hE : ElemInfo P e size bytes)
    (base : Nat) (v : Value) (n : Nat) (xs : List Value) (hs : a.eval s = v) (hown : w.ownsRow base e size v n xs)
    (g : Nat) (news : List Value) (tt : TypeId) (fz : Nat × Nat) (hx : a.eval x = .slice (some ⟨g, 0, none⟩) 1 1) (hg : w.heap[g]? = some (.cells news.toArray tt fz)) (hl : news.length = size) (h1 : ∀ u ∈ news, u.oneCell' = true)
    (hbytes : (n + 1) * bytes ≤ 140737488355328) (h63 : n + 1 ≤ maxLen) (hbase : base ≤ w.heap.size)
    (h : ∀ v' w', w'.ownsRow base e size v' (n + 1) (xs ++ news) → w.grownBy w' v.ownBlock → SameOrNew w v v' → wpList P ops Q rest (a.put o.dst v') w') : wpList P ops Q (o :: rest) a w := by
  obtain ⟨i, z, hi, hz, q1, q2, q3, q4⟩ := hE
  refine wpList_plain hgd fun K hK => ?_
  obtain ⟨v', w', hr, h2, h3, h4⟩ := run_append_fresh (P := P) w base t o.type e i z size bytes ht hi hz q1 q2 q3 q4 v n xs hown ⟨g, 0, none⟩ 1 1 news (by simpa using hl) (fun j u hj => by rw [addr_add]; exact cell_of hg (by simpa using hj)) h1 h63 hbytes hbase
  unfold Oper.wp execOp
  simp only [ho, resolve, invoke, builtin, Sem.run_bind, Sem.run_pure, Result.andThen_ok, List.map_toArray, List.map_cons, List.map_nil, hs, hx, hr]
  exact hK _ _ (h v' w' h2 h3 h4)

/-- A row of bytes of the call's own, not nil; its mark, if any, lies behind its end. -/
def MRow (w : World) (base : Nat) (e : TypeId) (v : Value) (xs : List Value) : Prop :=
  ∃ g cap cur fz, v = .slice (some ⟨g, 0, none⟩) xs.length cap ∧ base ≤ g ∧ w.heap[g]? = some (.cells cur e fz) ∧ (cur.size ≤ fz.1 ∨ fz = (0, 0)) ∧ xs.length ≤ cap ∧ cap ≤ maxLen ∧ cur.size = cap ∧ cur.toList.take xs.length = xs
theorem MRow.cell {w : World} {base : Nat} {e : TypeId} {v : Value} {xs : List Value} (h : MRow w base e v xs) : ∃ g cap, v = .slice (some ⟨g, 0, none⟩) xs.length cap ∧ base ≤ g ∧ xs.length ≤ cap ∧ cap ≤ maxLen ∧ ∀ j u, xs[j]? = some u → w.cell? ⟨g, j, none⟩ = some u := by
  obtain ⟨g, cap, cur, fz, rfl, hb, hg, _, h1, h2, h3, h4⟩ := h
  refine ⟨g, cap, rfl, hb, h1, h2, fun j u hj => cell_of hg ?_⟩
  rw [← h4, List.getElem?_take] at hj
  split at hj
  · simpa using hj
  · cases hj
theorem wpList_push_m {P : Program} {w : World} {ops : Array Oper} {rest : List Oper} {o : Oper} {a : Act} {Q : Exit → Act → World → Prop} (hgd : o.guard = none) (s x : Operand) (t : TypeId)
    (ho : o.op = .call { callee := .builtin .append, args := #[s, x], argTypes := #[t, t] }) (e : TypeId) (bytes : Nat) (ht : P.underlying t = some (.slice e)) (hE : ElemInfo P e 1 bytes)
    (base : Nat) (v : Value) (xs : List Value) (hs : a.eval s = v) (hown : MRow w base e v xs)
    (g : Nat) (new : Value) (tt : TypeId) (fz : Nat × Nat) (hx : a.eval x = .slice (some ⟨g, 0, none⟩) 1 1) (hg : w.heap[g]? = some (.cells #[new] tt fz)) (h1 : new.oneCell' = true)
    (hbytes : (xs.length + 1) * bytes ≤ 140737488355328) (h63 : xs.length + 1 ≤ maxLen) (hbase : base ≤ w.heap.size)
    (h : ∀ v' w', MRow w' base e v' (xs ++ [new]) → w.grownBy w' v.ownBlock → wpList P ops Q rest (a.put o.dst v') w') : wpList P ops Q (o :: rest) a w := by
  obtain ⟨i, z, hi, hz, q1, q2, q3, q4⟩ := hE
  obtain ⟨b, cap, cur, fz2, rfl, hb, hbb, hfz, k1, k2, k3, k4⟩ := hown
  refine wpList_plain hgd fun K hK => ?_
  have hnews : ∀ j u, [new][j]? = some u → w.cell? ((⟨g, 0, none⟩ : Addr).add j) = some u := fun j u hj => by rw [addr_add]; exact cell_of hg (by simpa using hj)
  have holds : ∀ j u, xs[j]? = some u → w.cell? ((⟨b, 0, none⟩ : Addr).add j) = some u := fun j u hj => by
    rw [addr_add, Nat.zero_add]; refine cell_of hbb ?_
    rw [← k4, List.getElem?_take] at hj
    split at hj
    · simpa using hj
    · cases hj
  suffices hr : ∃ v' w', (Builtin.append_ #[t, t] o.type #[.slice (some ⟨b, 0, none⟩) xs.length cap, .slice (some ⟨g, 0, none⟩) 1 1]).run P w = .ok v' w' ∧ MRow w' base e v' (xs ++ [new]) ∧ w.grownBy w' (some b) by
    obtain ⟨v', w', hr, h2, h3⟩ := hr
    unfold Oper.wp execOp
    simp only [ho, resolve, invoke, builtin, Sem.run_bind, Sem.run_pure, Result.andThen_ok, List.map_toArray, List.map_cons, List.map_nil, hs, hx, hr]
    exact hK _ _ (h v' w' h2 h3)
  by_cases hroom : xs.length + 1 ≤ cap
  · have hlt : xs.length < cur.size := by omega
    have hfr : w.frozen? ⟨b, xs.length, none⟩ = false := by
      obtain ⟨lo, hi2⟩ := fz2
      rcases hfz with hfz | hfz
      · simp only [World.frozen?, hbb, Bool.and_eq_false_iff, decide_eq_false_iff_not]
        left; simp only at hfz; omega
      · cases hfz; simp [World.frozen?, hbb]
    have hcell : w.cell? ⟨b, xs.length, none⟩ = some cur[xs.length] := by simp [World.cell?, hbb, hlt]
    have hf := run_firstCells_some (P := P) w i.size 1 ⟨g, 0, none⟩ 1 1 [new] (by simp [q1]) hnews
    have hst : (store ⟨b, xs.length, none⟩ new).run P w = .ok () (w.setCell ⟨b, xs.length, none⟩ new) := by
      rw [run_store P w _ new _ h1, hcell]; simp [hfr]
    have hst2 : (storeCells ⟨b, xs.length, none⟩ [new] 0).run P w = .ok () (w.setCell ⟨b, xs.length, none⟩ new) := by
      simp [storeCells, addr_add, hst]
    rw [q1] at hf
    refine ⟨.slice (some ⟨b, 0, none⟩) (xs.length + 1) cap, w.setCell ⟨b, xs.length, none⟩ new, ?_, ?_, ?_⟩
    · simp [Builtin.append_, run_underlying ht, sizeOf, typeInfo, hi, Builtin.lenOf, hroom, hf, Addr.add_lit, q1, hst2]
    · refine ⟨b, cap, cur.setIfInBounds xs.length new, fz2, by simp, hb, obj_setCell hbb _, by simpa using hfz, by simpa using hroom, k2, by simpa using k3, ?_⟩
      rw [List.length_append, List.length_singleton, Array.toList_setIfInBounds]
      rw [List.take_succ_eq_append_getElem (by simpa using hlt), List.take_set_of_le (Nat.le_refl _), k4]
      simp
    · exact ⟨rfl, rfl, rfl, by simp [World.setCell], fun k _ hk => Below.heap_setCell _ _ _ _ (fun e => hk (by simp [e]))⟩
  · have hr := run_append_grow (P := P) w t o.type e i z ht hi hz ⟨b, 0, none⟩ xs.length cap xs (by simp [q1]) holds ⟨g, 0, none⟩ 1 1 [new] (by simp [q1]) hnews (by omega) (by simp only [maxLen] at h63; omega) (growslice_fits (by omega) (by rw [q2]; exact hbytes))
    have hge := grownCap_ge w (xs.length + 1) cap e
    have hcm2 : grownCap w (xs.length + 1) cap e ≤ maxLen := grownCap_le_maxLen w (xs.length + 1) cap e h63
    refine ⟨_, _, hr, ⟨w.heap.size, _, _, (0, 0), by simp, hbase, heap_alloc_new w.drew _, .inr rfl, by simpa using hge, hcm2, ?_, ?_⟩, ⟨rfl, rfl, rfl, by simp, fun k hk _ => Below.heap_alloc w.drew _ k hk⟩⟩
    · simp only [Array.size_append, List.size_toArray, size_zeroCells, q3, List.length_singleton]; omega
    · simp only [Array.toList_append, List.append_assoc]
      rw [← List.append_assoc]
      exact List.take_left
/-- A store of one cell: the world behind it has a name of its own. -/
theorem wpList_store_one {P : Program} {ops : Array Oper} {w : World} {Q : Exit → Act → World → Prop} {a : Act} {o : Oper} {rest : List Oper} (hgd : o.guard = none) (ty : TypeId) (x y : Operand) (ho : o.op = .store ty x y)
    (g off : Nat) (hx : a.eval x = .pointer (some ⟨g, off, none⟩)) (v : Value) (hy : a.eval y = v) (hv : v.cells = #[v]) (h1 : v.oneCell' = true) (hi : (P.info? ty).map (·.size) = some 1)
    (old : Value) (hc : w.cell? ⟨g, off, none⟩ = some old) (hf : w.frozen? ⟨g, off, none⟩ = false)
    (h : ∀ w', w' = w.setCell ⟨g, off, none⟩ v → wpList P ops Q rest (a.put o.dst undef) w') : wpList P ops Q (o :: rest) a w := by
  refine wpList_plain hgd fun K hK => ?_
  have hst : (storeCells ⟨g, off, none⟩ [v] 0).run P w = .ok () (w.setCell ⟨g, off, none⟩ v) := by
    have : (store ⟨g, off, none⟩ v).run P w = .ok () (w.setCell ⟨g, off, none⟩ v) := by rw [run_store P w _ v _ h1, hc]; simp [hf]
    simp [storeCells, addr_add, this]
  cases hq : P.info? ty with
  | none => simp [hq] at hi
  | some i =>
    have hin : i.size = 1 := by simpa [hq] using hi
    unfold Oper.wp execOp
    simp only [ho, hx, hy, Instr.storeAt, Instr.sureAddr, storeVar, hv]
    simp [sizeOf, typeInfo, hq, hin, hst]
    exact hK _ _ (h _ rfl)
theorem cell_chg {S : Nat → Prop} {w w' : World} {b o : Nat} {v : Value} (hc : Chg S w w') (hs : ¬ S b) (h : w.cell? ⟨b, o, none⟩ = some v) : w'.cell? ⟨b, o, none⟩ = some v := by
  rw [← h]; exact World.cell?_of_block (w := w) (hc.block b (World.block_lt_of_cell? w _ h) hs)
def slen : Value → Nat
  | .slice _ n _ => n
  | _ => 0
theorem own_empty (w : World) (base : Nat) (e : TypeId) (size : Nat) (hb : base ≤ w.heap.size) : (w.alloc (.cells #[] e)).ownsRow base e size (.slice (some ⟨w.heap.size, 0, none⟩) 0 0) 0 [] :=
  ⟨by simp, .inr ⟨w.heap.size, 0, #[], rfl, hb, obj_alloc_new _ _, Nat.le_refl _, by unfold maxLen; omega, by simp, by simp⟩⟩
def Apart (v u : Value) : Prop := ∀ x, v.ownBlock = some x → u.ownBlock ≠ some x
theorem Apart.symm {v u : Value} (h : Apart v u) : Apart u v := fun x h1 h2 => h x h2 h1
theorem own_shape {w : World} {base : Nat} {e : TypeId} {size n : Nat} {xs : List Value} {v : Value} (h : w.ownsRow base e size v n xs) : ∃ a c, v = .slice a n c := by
  obtain ⟨_, ⟨rfl, rfl⟩ | ⟨g, cap, cur, rfl, _⟩⟩ := h
  · exact ⟨_, _, rfl⟩
  · exact ⟨_, _, rfl⟩
theorem size_list (s : ByteArray) : s.data.toList.length = s.size := by rw [Array.length_toList]; rfl
theorem list_eq_getD {α : Type} {l m : List α} (z : α) (hl : l.length = m.length) (h : ∀ i, i < l.length → l.getD i z = m.getD i z) : l = m := by
  apply List.ext_getElem hl
  intro i h1 h2
  have := h i h1
  rw [List.getD_eq_getElem?_getD, List.getD_eq_getElem?_getD, List.getElem?_eq_getElem h1, List.getElem?_eq_getElem h2] at this
  exact this
end Go.Proofs.Ytiidagdapckgjaa
