/-
  Package accept: what the run keeps in memory.
-/
import Derived.Test.YtdgmjablkdemmaaGreatURef
namespace Go.Proofs.YtdgmjablkdemmaaGreat
open Go.RowKit Go.Maps

theorem rulesAt_blk {w : World} {base : Nat} {v : Value} {L : List BRul} (h : w.ownsRow base 73 2 v L.length (ruleCells L)) (hs : ∀ r ∈ L, r.1.size ≤ maxLen ∧ r.2.size ≤ maxLen) : RulesAt w v (fun k => v.ownBlock = some k) L := by
  have h0 := h
  obtain ⟨h1, ⟨rfl, h2⟩ | ⟨g, cap, cur, rfl, hg, hh, q1, q2, q3, q4⟩⟩ := h
  · refine ⟨none, 0, by rw [h2], by rw [h2]; unfold maxLen; omega, fun j x hj => ?_⟩
    have : j < L.length := (List.getElem?_eq_some_iff.1 hj).1
    omega
  · refine ⟨_, cap, rfl, by omega, fun j x hj => ?_⟩
    have hj' : j < L.length := (List.getElem?_eq_some_iff.1 hj).1
    obtain ⟨c1, c2⟩ := ruleCells_get L j x hj
    obtain ⟨z1, z2⟩ := hs x (List.mem_of_getElem? hj)
    refine ⟨g, 0, rfl, rfl, ?_, ?_, z1, z2⟩
    · rw [Nat.zero_add, h0.cellAt (j := j * 2) (by omega)]; exact c1
    · rw [Nat.zero_add, h0.cellAt (j := j * 2 + 1) (by omega)]; exact c2
theorem own_cap {w : World} {base : Nat} {e : TypeId} {size n m c : Nat} {a : Option Addr} {xs : List Value} (h : w.ownsRow base e size (.slice a n c) m xs) : m ≤ c := by
  obtain ⟨_, ⟨q, rfl⟩ | ⟨g, cap, cur, q, _, _, q1, _⟩⟩ := h
  · exact Nat.zero_le _
  · cases q; exact q1
theorem row_ne {w : World} {base : Nat} {e : TypeId} {size n : Nat} {v : Value} {xs : List Value} (h : w.ownsRow base e size v n xs) {k : Nat} {cs : Array Value} {t : TypeId} {fz : Nat × Nat} (ho : w.heap[k]? = some (.cells cs t fz)) (ne : t ≠ e) : v.ownBlock ≠ some k :=
  fun hk => ne (own_ty h hk ho)
theorem obj_ne {w : World} {k j : Nat} {cs ds : Array Value} {t e : TypeId} {fz gz : Nat × Nat} (h : w.heap[k]? = some (.cells cs t fz)) (h' : w.heap[j]? = some (.cells ds e gz)) (ne : t ≠ e) : k ≠ j := fun q => by
  subst q
  rw [h] at h'
  injection h' with h'
  injection h' with _ h2
  exact ne h2
/-- More rules, in a row that is new or has room. -/
theorem LookIn.grow {S : Nat → Prop} {w w' : World} {lk mS nS : Nat} {fS : Lit → Option Value} {C : Nat → Prop} {ra ra' : Option Addr} {R M : List BRul} {rc rc' : Nat} {b : Int} {G G' : Nat → Prop} (h : LookIn w lk mS nS fS C ra R rc b G) (hc : Chg S w w') (h2 : ¬ S mS) (h3 : ∀ k, C k → ¬ S k)
    (own' : w'.heap[lk]? = some (.cells #[.slice ra' (R ++ M).length rc', .int .i64 b, .map (some mS)] 100 (0, 0))) (rules' : RulesAt w' (.slice ra' (R ++ M).length rc') G' (R ++ M)) (few' : (R ++ M).length ≤ 400 ∧ ∀ r ∈ R ++ M, r.1.size ≤ 400) (hcap : (R ++ M).length ≤ rc')
    (gb' : ∀ k, G' k → k < w'.heap.size ∧ k ≠ mS ∧ k ≠ lk) : LookIn w' lk mS nS fS C ra' (R ++ M) rc' b G' :=
  ⟨own', h.map.chg hc h2, rules', .inl few', fun x v hv => by
    obtain ⟨n, a, L, c, e, q1, q2, q3, q4, q5⟩ := h.row x v hv
    exact ⟨n, a, L, c, e, by rw [List.length_append]; omega, .inr hcap, q3.chg hc h3, by rw [List.take_append_of_le_length q1]; exact q4, q5⟩, fun k hk => by
    obtain ⟨cs, q⟩ := h.typ k hk
    exact ⟨cs, hc.obj (h3 k hk) q⟩, gb'⟩
def inCells (n : Nat) (Il : List Nat) : List Value := (List.range n).map fun j => .bool (decide (j ∈ Il))
theorem inCells_length (n : Nat) (Il : List Nat) : (inCells n Il).length = n := by unfold inCells; rw [List.length_map, List.length_range]
theorem inCells_get {n : Nat} {Il : List Nat} {j : Nat} (h : j < n) : (inCells n Il)[j]? = some (.bool (decide (j ∈ Il))) := by
  unfold inCells
  rw [List.getElem?_map, List.getElem?_range h]; rfl
theorem inCells_set {n : Nat} {Il : List Nat} {i : Nat} (_ : i < n) : (inCells n Il).set i (.bool true) = inCells n (Il ++ [i]) := by
  apply List.ext_getElem?
  intro j
  by_cases hj : j < n
  · rw [inCells_get hj]
    by_cases e : i = j
    · subst e
      rw [List.getElem?_set_self (by rw [inCells_length]; exact hj)]
      simp
    · rw [List.getElem?_set_ne e, inCells_get hj]
      have : (j ∈ Il ++ [i]) ↔ j ∈ Il := by simp [Ne.symm e]
      simp only [this]
  · rw [List.getElem?_eq_none (by rw [List.length_set, inCells_length]; omega), List.getElem?_eq_none (by rw [inCells_length]; omega)]
theorem inCells_none (n : Nat) : (madeCells #[Value.bool false] n).toList = inCells n [] := by
  unfold madeCells inCells
  apply List.ext_getElem?
  intro j
  simp only [Array.toList_map, Array.toList_range, List.getElem?_map]
  by_cases hj : j < n
  · rw [List.getElem?_range hj]
    simp [Nat.mod_one]
  · rw [List.getElem?_eq_none (by simp; omega)]; rfl
theorem rowAt_own' {w : World} {base : Nat} {e : TypeId} {n g cap : Nat} {xs : List Value} (h : w.ownsRow base e 1 (.slice (some ⟨g, 0, none⟩) n cap) n xs) : base ≤ g ∧ RowAt w g e xs := by
  obtain ⟨h1, ⟨q, _⟩ | ⟨g', cap, cur, q, hg, hh, q1, q2, q3, q4⟩⟩ := h
  · cases q
  · cases q
    refine ⟨hg, cur.toList.drop n, ?_⟩
    rw [hh]
    have : xs ++ cur.toList.drop n = cur.toList := by rw [← q4, Nat.mul_one, List.take_append_drop]
    rw [this, Array.toArray_toList]
/-- What the run keeps: the looker, the rules, the order, who is in, and the result's place. -/
structure RunAt (w : World) (base lk mS gi ro n : Nat) (b : Int) (N : Nat) (Rl : List BRul) (Ol Il : List Nat) (ra : Option Addr) (rc : Nat) (ov : Value) : Prop where
  look : ∃ fS nS C, LookIn w lk mS nS fS C ra Rl rc b (fun k => (Value.slice ra Rl.length rc).ownBlock = some k) ∧ nS ≤ N ∧ ∀ k, C k → base ≤ k
  rul : w.ownsRow base 73 2 (.slice ra Rl.length rc) Rl.length (ruleCells Rl)
  ord : w.ownsRow base 3 1 ov Ol.length (ints Ol)
  inr : RowAt w gi 4 (inCells n Il)
  res : w.heap[ro]? = some (.cells #[.slice none 0 0, .slice none 0 0] 61 (0, 0))
  lo : base ≤ lk ∧ base ≤ mS ∧ base ≤ gi ∧ base ≤ ro
  few : Rl.length ≤ 400 ∧ ∀ r ∈ Rl, r.1.size ≤ 400 ∧ r.2.size ≤ maxLen
section
variable {w w' : World} {base lk mS gi ro n : Nat} {b : Int} {N : Nat} {Rl : List BRul} {Ol Il : List Nat} {ra : Option Addr} {rc : Nat} {ov : Value}
theorem RunAt.lookObj (h : RunAt w base lk mS gi ro n b N Rl Ol Il ra rc ov) : w.heap[lk]? = some (.cells #[.slice ra Rl.length rc, .int .i64 b, .map (some mS)] 100 (0, 0)) := by
  obtain ⟨_, _, _, q, _⟩ := h.look
  exact q.own
theorem RunAt.inObj (h : RunAt w base lk mS gi ro n b N Rl Ol Il ra rc ov) : ∃ cs, w.heap[gi]? = some (.cells cs 4 (0, 0)) := by
  obtain ⟨rest, q⟩ := h.inr
  exact ⟨_, q⟩
theorem RunAt.chg0 (h : RunAt w base lk mS gi ro n b N Rl Ol Il ra rc ov) (hc : Chg (fun _ => False) w w') : RunAt w' base lk mS gi ro n b N Rl Ol Il ra rc ov := by
  obtain ⟨fS, nS, C, q1, q2, q3⟩ := h.look
  exact ⟨⟨fS, nS, C, q1.chg hc (fun e => e) (fun e => e) (fun _ _ e => e) (fun _ _ e => e), q2, q3⟩, own_chg h.rul hc (fun _ _ e => e), own_chg h.ord hc (fun _ _ e => e), h.inr.chg hc (fun e => e), hc.obj (fun e => e) h.res, h.lo, h.few⟩
theorem RunAt.lookAt (h : RunAt w base lk mS gi ro n b N Rl Ol Il ra rc ov) : LookAt w lk mS ra Rl rc b (fun k => (Value.slice ra Rl.length rc).ownBlock = some k) N (fun k => base ≤ k ∧ k < w.heap.size) := by
  obtain ⟨fS, nS, C, q1, q2, q3⟩ := h.look
  obtain ⟨_, _, n3, n4, n5⟩ := q1.ne
  exact ⟨fS, nS, C, q1, q2, fun k hk => ⟨q3 k hk, n3 k hk⟩, ⟨h.lo.1, n4⟩, ⟨h.lo.2.1, n5⟩, fun k hk => hk.2⟩
theorem RunAt.back (h : RunAt w base lk mS gi ro n b N Rl Ol Il ra rc ov) {N' : Nat} {B : Nat → Prop} (hl : LookAt w' lk mS ra Rl rc b (fun k => (Value.slice ra Rl.length rc).ownBlock = some k) N' B) (hc : Chg (· = mS) w w') (hb : ∀ k, B k → base ≤ k) : RunAt w' base lk mS gi ro n b N' Rl Ol Il ra rc ov := by
  obtain ⟨fS, nS, C, q1, q2, q3⟩ := h.look
  obtain ⟨fT, nT, D, p1, p2, p3, _⟩ := hl
  obtain ⟨ic, hi⟩ := h.inObj
  exact ⟨⟨fT, nT, D, p1, p2, fun k hk => hb k (p3 k hk)⟩, own_chg h.rul hc (fun k hk => (q1.gb k hk).2.1), own_chg h.ord hc (fun k hk => by
    obtain ⟨cs, z⟩ := own_cells h.ord hk
    exact q1.map.ne_cells z), h.inr.chg hc (q1.map.ne_cells hi), hc.obj (q1.map.ne_cells h.res) h.res, h.lo, h.few⟩
theorem RunAt.setIn (h : RunAt w base lk mS gi ro n b N Rl Ol Il ra rc ov) {i : Nat} (hi : i < n) : RunAt (w.setCell ⟨gi, i, none⟩ (.bool true)) base lk mS gi ro n b N Rl Ol (Il ++ [i]) ra rc ov := by
  have hc := chg_cell w gi i (.bool true)
  obtain ⟨fS, nS, C, q1, q2, q3⟩ := h.look
  obtain ⟨ic, ho⟩ := h.inObj
  refine ⟨⟨fS, nS, C, q1.chg hc (obj_ne q1.own ho (by decide)) (fun e => q1.map.ne_cells ho e.symm) (fun k hk e => by
      obtain ⟨cs, z⟩ := q1.typ k hk
      exact obj_ne z ho (by decide) e) (fun k hk e => row_ne h.rul ho (by decide) (e ▸ hk)), q2, q3⟩, own_chg h.rul hc (fun k hk e => row_ne h.rul ho (by decide) (e ▸ hk)), own_chg h.ord hc (fun k hk e => row_ne h.ord ho (by decide) (e ▸ hk)), ?_, hc.obj (obj_ne h.res ho (by decide)) h.res, h.lo, h.few⟩
  have := h.inr.set (i := i) (by rw [inCells_length]; exact hi) (.bool true)
  rwa [inCells_set hi] at this
theorem RunAt.push {S : Nat → Prop} (h : RunAt w base lk mS gi ro n b N Rl Ol Il ra rc ov) {i : Nat} {v5 : Value} (o5 : w'.ownsRow base 3 1 v5 (Ol ++ [i]).length (ints (Ol ++ [i]))) (hc : Chg S w w') (hS : ∀ k, S k → ov.ownBlock = some k) : RunAt w' base lk mS gi ro n b N Rl (Ol ++ [i]) Il ra rc v5 := by
  obtain ⟨fS, nS, C, q1, q2, q3⟩ := h.look
  obtain ⟨ic, ho⟩ := h.inObj
  have key : ∀ {k cs t fz}, w.heap[k]? = some (.cells cs t fz) → t ≠ 3 → ¬ S k := fun hk ne q => row_ne h.ord hk ne (hS _ q)
  have key2 : ∀ k, (Value.slice ra Rl.length rc).ownBlock = some k → ¬ S k := fun k hk => by
    obtain ⟨cs, z⟩ := own_cells h.rul hk
    exact key z (by decide)
  refine ⟨⟨fS, nS, C, q1.chg hc (key q1.own (by decide)) (fun e => ?_) (fun k hk => ?_) key2, q2, q3⟩, own_chg h.rul hc key2, o5, h.inr.chg hc (key ho (by decide)), hc.obj (key h.res (by decide)) h.res, h.lo, h.few⟩
  · obtain ⟨cs, z⟩ := own_cells h.ord (hS _ e)
    exact q1.map.ne_cells z rfl
  · obtain ⟨cs, z⟩ := q1.typ k hk
    exact key z (by decide)
theorem RunAt.grow {S : Nat → Prop} (h : RunAt w base lk mS gi ro n b N Rl Ol Il ra rc ov) {M : List BRul} {ra' : Option Addr} {rc' : Nat} (o5 : w'.ownsRow base 73 2 (.slice ra' (Rl ++ M).length rc') (Rl ++ M).length (ruleCells (Rl ++ M))) (hc : Chg S w w') (hS : ∀ k, S k → (Value.slice ra Rl.length rc).ownBlock = some k)
    (few' : (Rl ++ M).length ≤ 400 ∧ ∀ r ∈ Rl ++ M, r.1.size ≤ 400 ∧ r.2.size ≤ maxLen) : RunAt (w'.setCell ⟨lk, 0, none⟩ (.slice ra' (Rl ++ M).length rc')) base lk mS gi ro n b N (Rl ++ M) Ol Il ra' rc' ov := by
  obtain ⟨fS, nS, C, q1, q2, q3⟩ := h.look
  obtain ⟨ic, ho⟩ := h.inObj
  have hk2 := (hc.mono (T := fun k => S k ∨ k = lk) (fun _ _ e => .inl e)).trans ((chg_cell w' lk 0 (.slice ra' (Rl ++ M).length rc')).mono (fun _ _ e => .inr e))
  have key : ∀ {k cs t fz}, w.heap[k]? = some (.cells cs t fz) → t ≠ 73 → t ≠ 100 → ¬ (S k ∨ k = lk) := fun hk ne ne2 q => by
    rcases q with q | q
    · exact row_ne h.rul hk ne (hS _ q)
    · exact obj_ne hk q1.own ne2 q
  have olk : w'.heap[lk]? = some (.cells #[.slice ra Rl.length rc, .int .i64 b, .map (some mS)] 100 (0, 0)) := hc.obj (fun q => row_ne h.rul q1.own (by decide) (hS _ q)) q1.own
  have olk' : (w'.setCell ⟨lk, 0, none⟩ (.slice ra' (Rl ++ M).length rc')).heap[lk]? = some (.cells #[.slice ra' (Rl ++ M).length rc', .int .i64 b, .map (some mS)] 100 (0, 0)) := obj_setCell (o := 0) olk _
  have o6 : (w'.setCell ⟨lk, 0, none⟩ (.slice ra' (Rl ++ M).length rc')).ownsRow base 73 2 (.slice ra' (Rl ++ M).length rc') (Rl ++ M).length (ruleCells (Rl ++ M)) := own_chg o5 (chg_cell _ _ _ _) (fun k hk e => row_ne o5 olk (by decide) (e ▸ hk))
  have hm : ¬ (S mS ∨ mS = lk) := fun q => by
    rcases q with q | q
    · obtain ⟨cs, z⟩ := own_cells h.rul (hS _ q)
      exact q1.map.ne_cells z rfl
    · exact q1.map.ne_cells q1.own q.symm
  refine ⟨⟨fS, nS, C, q1.grow hk2 hm (fun k hk => ?_) olk' (rulesAt_blk o6 (fun r hr => by have := few'.2 r hr; unfold maxLen at *; omega)) ⟨few'.1, fun r hr => (few'.2 r hr).1⟩ (own_cap o5) (fun k hk => ⟨(o6.lt k hk).2, ?_, row_ne' o6 olk' (by decide) hk⟩), q2, q3⟩, o6, own_chg h.ord hk2 (fun k hk => ?_), h.inr.chg hk2 (key ho (by decide) (by decide)), hk2.obj (key h.res (by decide) (by decide)) h.res, h.lo, few'⟩
  · obtain ⟨cs, z⟩ := q1.typ k hk
    exact key z (by decide) (by decide)
  · obtain ⟨cs, z⟩ := own_cells o6 hk
    exact (q1.map.chg hk2 hm).ne_cells z
  · obtain ⟨cs, z⟩ := own_cells h.ord hk
    exact key z (by decide) (by decide)
where
  row_ne' {w : World} {base : Nat} {e : TypeId} {size n : Nat} {v : Value} {xs : List Value} (h : w.ownsRow base e size v n xs) {k j : Nat} {cs : Array Value} {t : TypeId} {fz : Nat × Nat} (ho : w.heap[j]? = some (.cells cs t fz)) (ne : t ≠ e) (hk : v.ownBlock = some k) : k ≠ j := fun q => row_ne h ho ne (q ▸ hk)
end
end Go.Proofs.YtdgmjablkdemmaaGreat
