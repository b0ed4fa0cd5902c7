/-
  Package match: what each step of put leaves of a machine.
-/
import Derived.Test.YtiidagdapckgjaaMTrie
namespace Go.Proofs.Ytiidagdapckgjaa
open Go.RowKit Go.Maps

theorem ownBlock_blockOf {v : Value} {k : Nat} (h : v.ownBlock = some k) : blockOf v = some k := by
  unfold Value.ownBlock at h
  split at h
  · exact h
  · cases h
theorem mapBlock_blockOf {v : Value} {k : Nat} (h : mapBlock v = some k) : blockOf v = some k := by
  unfold mapBlock at h
  split at h
  · exact h
  · cases h
theorem cell_flat1 {cs : List (Value × Value)} {k : Nat} {c : Value × Value} (h : cs[k]? = some c) : (flat cs)[2 * k]? = some c.1 := (flat_get cs k c h).1
theorem cell_flat2 {cs : List (Value × Value)} {k : Nat} {c : Value × Value} (h : cs[k]? = some c) : (flat cs)[2 * k + 1]? = some c.2 := (flat_get cs k c h).2
section
variable {w w' : World} {base : Nat} {B : MB} {cs : List (Value × Value)} {ps : List (List Nat)} {wh : List Nat → List Nat} {S : Nat → Prop}
theorem MachAt.emKept (h : MachAt w base B cs ps wh) (hc : Chg S w w') {i0 : Nat} (hs : ∀ (i : Nat) u x, (flat cs)[i]? = some u → i ≠ i0 → blockOf u = some x → ¬ S x) :
    ∀ (k : Nat) p c, ps[k]? = some p → cs[k]? = some c → 2 * k ≠ i0 → EdgeMap w' base ps.length c.1 (edges ps p) := fun k p c hp hcc hk =>
  (h.em k p c hp hcc).chg hc (fun x hx => hs (2 * k) c.1 x (cell_flat1 hcc) hk (mapBlock_blockOf hx))
theorem MachAt.ewKept (h : MachAt w base B cs ps wh) (hc : Chg S w w') {i0 : Nat} (hs : ∀ (i : Nat) u x, (flat cs)[i]? = some u → i ≠ i0 → blockOf u = some x → ¬ S x) :
    ∀ (k : Nat) p c, ps[k]? = some p → cs[k]? = some c → 2 * k + 1 ≠ i0 → w'.ownsRow base 3 1 c.2 (wh p).length (ints (wh p)) := fun k p c hp hcc hk =>
  own_chg (h.ew k p c hp hcc) hc (fun x hx => hs (2 * k + 1) c.2 x (cell_flat2 hcc) hk (ownBlock_blockOf hx))
theorem MachAt.chg (h : MachAt w base B cs ps wh) (hc : Chg (fun _ => False) w w') : MachAt w' base B cs ps wh :=
  ⟨hc.obj (fun e => e) h.hb, own_chg h.hg hc (fun _ _ e => e), h.len, fun k p c hp hcc => (h.em k p c hp hcc).chg hc (fun _ _ e => e), fun k p c hp hcc => own_chg (h.ew k p c hp hcc) hc (fun _ _ e => e), h.ap, h.ag, h.bg, h.bb⟩
theorem MachAt.gRow (h : MachAt w base B cs ps wh) : ∃ rest : List Value, w.heap[B.g]? = some (.cells (flat cs ++ rest).toArray 59 (0, 0)) ∧ cs.length ≤ B.cap ∧ B.cap ≤ maxLen ∧ (flat cs ++ rest).length = B.cap * 2 := by
  obtain ⟨_, ⟨e, _⟩ | ⟨g, cap, cur, e, hg, hh, q1, q2, q3, q4⟩⟩ := h.hg
  · cases e
  · cases e
    refine ⟨cur.toList.drop (cs.length * 2), ?_, q1, q2, ?_⟩
    · rw [hh, ← q4, List.take_append_drop, Array.toArray_toList]
    · rw [← q4, List.take_append_drop, Array.length_toList, q3]
theorem MachAt.mcell (h : MachAt w base B cs ps wh) {k : Nat} {c : Value × Value} (hk : cs[k]? = some c) : w.cell? ⟨B.g, k * 2, none⟩ = some c.1 ∧ w.cell? ⟨B.g, k * 2 + 1, none⟩ = some c.2 := by
  obtain ⟨rest, hh, _⟩ := h.gRow
  have hl : k < cs.length := (List.getElem?_eq_some_iff.1 hk).1
  have hfl := flat_length cs
  refine ⟨cell_of hh ?_, cell_of hh ?_⟩
  · rw [List.getElem?_toArray, List.getElem?_append_left (by omega), show k * 2 = 2 * k from by omega]; exact cell_flat1 hk
  · rw [List.getElem?_toArray, List.getElem?_append_left (by omega), show k * 2 + 1 = 2 * k + 1 from by omega]; exact cell_flat2 hk
theorem MachAt.frz (h : MachAt w base B cs ps wh) (o : Nat) : w.frozen? ⟨B.g, o, none⟩ = false := by
  obtain ⟨rest, hh, _⟩ := h.gRow
  exact frozen_of hh
theorem MachAt.glt (h : MachAt w base B cs ps wh) : base ≤ B.g ∧ B.g < w.heap.size := h.hg.lt B.g rfl
theorem MachAt.blt (h : MachAt w base B cs ps wh) {i : Nat} {u : Value} {x : Nat} (hi : (flat cs)[i]? = some u) (hx : blockOf u = some x) : base ≤ x ∧ x < w.heap.size := by
  have hil : i < (flat cs).length := (List.getElem?_eq_some_iff.1 hi).1
  rw [flat_length] at hil
  have hk : i / 2 < cs.length := by omega
  obtain ⟨c, hc⟩ : ∃ c, cs[i / 2]? = some c := ⟨_, List.getElem?_eq_getElem hk⟩
  obtain ⟨p, hp⟩ : ∃ p, ps[i / 2]? = some p := ⟨_, List.getElem?_eq_getElem (by rw [← h.len]; exact hk)⟩
  rcases (by omega : i = 2 * (i / 2) ∨ i = 2 * (i / 2) + 1) with e | e
  · rw [e, cell_flat1 hc] at hi
    cases hi
    rcases h.em _ p c hp hc with ⟨q, _⟩ | ⟨bm, n, D, q, hb, hown, _⟩
    · rw [q] at hx; cases hx
    · rw [q] at hx; cases hx; exact ⟨hb, hown.lt⟩
  · rw [e, cell_flat2 hc] at hi
    cases hi
    have ho := h.ew _ p c hp hc
    obtain ⟨a, cp, q⟩ := own_shape ho
    have : c.2.ownBlock = some x := by
      rw [q] at hx ⊢
      cases a with
      | none => cases hx
      | some a => exact hx
    exact ho.lt x this
/-- The states' row with one cell written anew. -/
theorem MachAt.rowSet (h : MachAt w base B cs ps wh) {o : Nat} {v : Value} {cs' : List (Value × Value)} (hl : cs'.length = cs.length) (hf : (flat cs).set o v = flat cs') :
    (w.setCell ⟨B.g, o, none⟩ v).ownsRow base 59 2 (.slice (some ⟨B.g, 0, none⟩) cs'.length B.cap) cs'.length (flat cs') := by
  obtain ⟨_, ⟨e, _⟩ | ⟨g, cap, cur, e, hg, hh, q1, q2, q3, q4⟩⟩ := h.hg
  · cases e
  · cases e
    refine ⟨by rw [flat_length]; omega, .inr ⟨B.g, B.cap, cur.setIfInBounds o v, rfl, hg, obj_setCell hh _, by omega, q2, by simpa using q3, ?_⟩⟩
    rw [hl, Array.toList_setIfInBounds, List.take_set, q4, hf]
theorem flat_get_set {cs cs' : List (Value × Value)} {o : Nat} {v : Value} (hf : (flat cs).set o v = flat cs') {i : Nat} {u : Value} (hi : (flat cs')[i]? = some u) : (i = o ∧ u = v) ∨ (i ≠ o ∧ (flat cs)[i]? = some u) := by
  rw [← hf, List.getElem?_set] at hi
  split at hi
  · rename_i e
    split at hi
    · cases hi; exact .inl ⟨e.symm, rfl⟩
    · cases hi
  · rename_i e
    exact .inr ⟨fun q => e q.symm, hi⟩
/-- What is asked of blocks, behind one cell written anew: its new value's block is its old one's, or a new one, or there is none. -/
theorem ap_set (h : MachAt w base B cs ps wh) {cs' : List (Value × Value)} {o : Nat} {v old : Value} (hf : (flat cs).set o v = flat cs') (ho : (flat cs)[o]? = some old) (hv : blockOf v = blockOf old ∨ ∀ x, blockOf v = some x → w.heap.size ≤ x) :
    (∀ (i j x : Nat) u v, (flat cs')[i]? = some u → (flat cs')[j]? = some v → blockOf u = some x → blockOf v = some x → i = j) ∧ (∀ (i : Nat) u, (flat cs')[i]? = some u → blockOf u ≠ some B.g ∧ blockOf u ≠ some B.b) := by
  have hb := lt_of_obj h.hb
  have hg := h.glt
  have key : ∀ (j : Nat) u x, j ≠ o → (flat cs)[j]? = some u → blockOf u = some x → blockOf v ≠ some x := by
    intro j u x hj hu hx hvx
    rcases hv with e | e
    · exact hj (h.ap j o x u old hu ho hx (e ▸ hvx))
    · have := e x hvx; have := (h.blt hu hx).2; omega
  constructor
  · intro i j x u v' hi hj hu hv'
    rcases flat_get_set hf hi with ⟨rfl, rfl⟩ | ⟨n1, hi⟩ <;> rcases flat_get_set hf hj with ⟨rfl, rfl⟩ | ⟨n2, hj⟩
    · rfl
    · exact absurd hu (key j v' x n2 hj hv')
    · exact absurd hv' (key i u x n1 hi hu)
    · exact h.ap i j x u v' hi hj hu hv'
  · intro i u hi
    rcases flat_get_set hf hi with ⟨rfl, rfl⟩ | ⟨_, hi⟩
    · constructor
      · intro e
        rcases hv with q | q
        · exact (h.ag i old ho).1 (q ▸ e)
        · have := q _ e; omega
      · intro e
        rcases hv with q | q
        · exact (h.ag i old ho).2 (q ▸ e)
        · have := q _ e; omega
    · exact h.ag i u hi
theorem get_set_cs {cs : List (Value × Value)} {k i : Nat} {c x : Value × Value} (h : (cs.set k x)[i]? = some c) : (i = k ∧ c = x) ∨ (i ≠ k ∧ cs[i]? = some c) := by
  rw [List.getElem?_set] at h
  split at h
  · rename_i e
    split at h
    · cases h; exact .inl ⟨e.symm, rfl⟩
    · cases h
  · rename_i e
    exact .inr ⟨fun q => e q.symm, h⟩
/-- A state that had no map gets one. -/
theorem MachAt.newMap (h : MachAt w base B cs ps wh) {k : Nat} {p : List Nat} {v : Value} (hp : ps[k]? = some p) (hk : cs[k]? = some (.map none, v)) :
    MachAt ((w.alloc (.map #[] 0)).setCell ⟨B.g, k * 2, none⟩ (.map (some w.heap.size))) base B (cs.set k (.map (some w.heap.size), v)) ps wh := by
  have h1 := h.chg (chg_alloc (fun _ => False) w (.map #[] 0))
  have hf := flat_set1 cs k _ hk (.map (some w.heap.size))
  rw [show 2 * k = k * 2 from by omega] at hf
  have hc : Chg (· = B.g) (w.alloc (.map #[] 0)) ((w.alloc (.map #[] 0)).setCell ⟨B.g, k * 2, none⟩ (.map (some w.heap.size))) := chg_cell _ _ _ _
  have hoth : ∀ (i : Nat) u x, (flat cs)[i]? = some u → i ≠ 2 * cs.length → blockOf u = some x → ¬ x = B.g := fun i u x hu _ hx e => (h.ag i u hu).1 (e ▸ hx)
  have hlen : ∀ i, cs[i]? ≠ none → 2 * i ≠ 2 * cs.length ∧ 2 * i + 1 ≠ 2 * cs.length := fun i hi => by
    have : i < cs.length := by
      rcases Nat.lt_or_ge i cs.length with q | q
      · exact q
      · exact absurd (List.getElem?_eq_none q) hi
    omega
  have hapx := ap_set h hf (by rw [show k * 2 = 2 * k from by omega]; exact cell_flat1 hk) (.inr fun x hx => by cases hx; exact Nat.le_refl _)
  have hgl := h.glt
  have hkl : k < cs.length := (List.getElem?_eq_some_iff.1 hk).1
  refine ⟨hc.obj h.bg (by rw [List.length_set]; exact h1.hb), h1.rowSet (List.length_set ..) hf, by rw [List.length_set]; exact h.len, ?_, ?_, hapx.1, hapx.2, h.bg, h.bb⟩
  · intro i q c hq hci
    rcases get_set_cs hci with ⟨rfl, rfl⟩ | ⟨hne, hci⟩
    · obtain rfl : p = q := by rw [hp] at hq; exact Option.some.inj hq
      have e0 := h.em i p _ hp hk
      rcases e0 with ⟨_, hnone⟩ | ⟨bm, n, D, e, _⟩
      · refine .inr ⟨w.heap.size, 0, .map [], rfl, by omega, ?_, by omega, fun a ha => ?_⟩
        · exact World.ownsMap.setCell (World.ownsMap_made _ _ _ _) (by show w.heap.size ≠ B.g; omega) _
        · rw [hnone a ha]
          exact ⟨rfl, fun j hj => by cases hj⟩
      · cases e
    · exact h1.emKept hc hoth i q c hq hci (hlen i (by rw [hci]; simp)).1
  · intro i q c hq hci
    rcases get_set_cs hci with ⟨rfl, rfl⟩ | ⟨hne, hci⟩
    · exact h1.ewKept hc hoth i q (.map none, v) hq hk (hlen i (by rw [hk]; simp)).2
    · exact h1.ewKept hc hoth i q c hq hci (hlen i (by rw [hci]; simp)).2
/-- A word more ends in a state. -/
theorem MachAt.addWord (h : MachAt w base B cs ps wh) (hnd : ps.Nodup) {k which : Nat} {p : List Nat} {m v v' : Value} (hp : ps[k]? = some p) (hk : cs[k]? = some (m, v))
    (ho : w'.ownsRow base 3 1 v' ((wh p).length + 1) (ints (wh p) ++ [.int .i64 (which : Int)])) (hg : w.grownBy w' v.ownBlock) (hs : SameOrNew w v v') :
    MachAt (w'.setCell ⟨B.g, k * 2 + 1, none⟩ v') base B (cs.set k (m, v')) ps (fun q => if q = p then wh q ++ [which] else wh q) := by
  have hf := flat_set2 cs k _ hk v'
  rw [show 2 * k + 1 = k * 2 + 1 from by omega] at hf
  have hfl : (flat cs)[k * 2 + 1]? = some v := by rw [show k * 2 + 1 = 2 * k + 1 from by omega]; exact cell_flat2 hk
  obtain ⟨av, cv, ev⟩ := own_shape (h.ew k p _ hp hk)
  obtain ⟨av', cv', ev'⟩ := own_shape ho
  have bo : ∀ u : Value, (∃ a n c, u = .slice a n c) → blockOf u = u.ownBlock := by
    rintro u ⟨a, n, c, rfl⟩; cases a <;> rfl
  have bv : blockOf v = v.ownBlock := bo v ⟨_, _, _, ev⟩
  have bv' : blockOf v' = v'.ownBlock := bo v' ⟨_, _, _, ev'⟩
  have hvg : v.ownBlock ≠ some B.g := by rw [← bv]; exact (h.ag _ v hfl).1
  have hvb : v.ownBlock ≠ some B.b := by rw [← bv]; exact (h.ag _ v hfl).2
  have c1 : Chg (fun x => v.ownBlock = some x) w w' := Chg.of_grown hg
  have c2 : Chg (· = B.g) w' (w'.setCell ⟨B.g, k * 2 + 1, none⟩ v') := chg_cell _ _ _ _
  have cc : Chg (fun x => v.ownBlock = some x ∨ x = B.g) w (w'.setCell ⟨B.g, k * 2 + 1, none⟩ v') := (c1.mono (fun _ _ e => .inl e)).trans (c2.mono (fun _ _ e => .inr e))
  have hoth : ∀ (i : Nat) u x, (flat cs)[i]? = some u → i ≠ 2 * k + 1 → blockOf u = some x → ¬ (v.ownBlock = some x ∨ x = B.g) := fun i u x hu hne hx e => by
    rcases e with e | rfl
    · rw [← bv] at e
      exact hne (by have := h.ap i (k * 2 + 1) x u v hu hfl hx e; omega)
    · exact (h.ag i u hu).1 hx
  have hapx := ap_set h hf hfl (by
    rcases hs with e | e
    · exact .inl (by rw [bv, bv', e])
    · exact .inr fun x hx => e x (by rw [← bv']; exact hx))
  have hrow : MachAt w base B cs ps wh := h
  have hg' : w'.ownsRow base 59 2 (.slice (some ⟨B.g, 0, none⟩) cs.length B.cap) cs.length (flat cs) := own_chg h.hg c1 (fun x hx e => hvg (by rw [e]; exact hx.symm))
  have hrs : (w'.setCell ⟨B.g, k * 2 + 1, none⟩ v').ownsRow base 59 2 (.slice (some ⟨B.g, 0, none⟩) (cs.set k (m, v')).length B.cap) (cs.set k (m, v')).length (flat (cs.set k (m, v'))) := by
    obtain ⟨_, ⟨e, _⟩ | ⟨g, cap, cur, e, hgg, hh, q1, q2, q3, q4⟩⟩ := hg'
    · cases e
    · cases e
      refine ⟨by rw [flat_length]; omega, .inr ⟨B.g, B.cap, cur.setIfInBounds (k * 2 + 1) v', rfl, hgg, obj_setCell hh _, by rw [List.length_set]; omega, q2, by simpa using q3, ?_⟩⟩
      rw [List.length_set, Array.toList_setIfInBounds, List.take_set, q4, hf]
  refine ⟨cc.obj (fun e => by rcases e with e | e; exact hvb e; exact h.bg e) (by rw [List.length_set]; exact h.hb), hrs, by rw [List.length_set]; exact h.len, ?_, ?_, hapx.1, hapx.2, h.bg, h.bb⟩
  · intro i q c hq hci
    rcases get_set_cs hci with ⟨rfl, rfl⟩ | ⟨hne, hci⟩
    · exact h.emKept cc hoth i q (m, v) hq hk (by omega)
    · exact h.emKept cc hoth i q c hq hci (by omega)
  · intro i q c hq hci
    rcases get_set_cs hci with ⟨rfl, rfl⟩ | ⟨hne, hci⟩
    · obtain rfl : p = q := by rw [hp] at hq; exact Option.some.inj hq
      rw [if_pos rfl]
      have e : ints (wh p ++ [which]) = ints (wh p) ++ [.int .i64 (which : Int)] := by unfold ints; rw [List.map_append]; rfl
      rw [e, List.length_append]
      refine own_chg ho c2 (fun x hx e => ?_)
      subst e
      rcases hs with q | q
      · exact hvg (q ▸ hx)
      · have := q _ hx; have := h.glt.2; omega
    · have hqp : q ≠ p := fun e => hne (by
        subst e
        exact (List.getElem?_inj (List.getElem?_eq_some_iff.1 hq).1 hnd).1 (hq.trans hp.symm))
      rw [if_neg hqp]
      exact h.ewKept cc hoth i q c hq hci (by omega)
end
end Go.Proofs.Ytiidagdapckgjaa
