/-
  Package match: a state more.
-/
import Derived.Test.YtiidagdapckgjaaMTrie2
namespace Go.Proofs.Ytiidagdapckgjaa
open Go.RowKit Go.Maps

theorem snoc_inj {p q : List Nat} {a b : Nat} (h : p ++ [a] = q ++ [b]) : p = q ∧ a = b := by
  have := List.append_inj' h rfl
  exact ⟨this.1, by simpa using this.2⟩
theorem edges_old {ps : List (List Nat)} {q p : List Nat} {a : Nat} (h : p ++ [a] ≠ q) : edges (ps ++ [q]) p a = edges ps p a := by
  unfold edges
  by_cases hm : p ++ [a] ∈ ps
  · rw [if_pos hm, if_pos (List.mem_append_left _ hm), List.idxOf_append, if_pos hm]
  · rw [if_neg hm, if_neg]
    rw [List.mem_append, List.mem_singleton]
    rintro (e | e)
    · exact hm e
    · exact h e
theorem edges_new {ps : List (List Nat)} {p : List Nat} {a : Nat} (h : p ++ [a] ∉ ps) : edges (ps ++ [p ++ [a]]) p a = some ps.length := by
  unfold edges
  rw [if_pos (by simp), List.idxOf_append, if_neg h]; simp
theorem flat_snoc_get {cs : List (Value × Value)} {i : Nat} {u : Value} (h : (flat (cs ++ [(.map none, .slice none 0 0)]))[i]? = some u) : (flat cs)[i]? = some u ∨ blockOf u = none := by
  rw [flat_append] at h
  rcases Nat.lt_or_ge i (flat cs).length with q | q
  · rw [List.getElem?_append_left q] at h; exact .inl h
  · rw [List.getElem?_append_right q] at h
    right
    have := List.mem_of_getElem? h
    simp [flat] at this
    rcases this with rfl | rfl <;> rfl
theorem get_snoc {α : Type} {l : List α} {x c : α} {i : Nat} (h : (l ++ [x])[i]? = some c) : (i < l.length ∧ l[i]? = some c) ∨ (i = l.length ∧ c = x) := by
  rcases Nat.lt_or_ge i l.length with q | q
  · rw [List.getElem?_append_left q] at h; exact .inl ⟨q, h⟩
  · rw [List.getElem?_append_right q] at h
    rcases Nat.eq_zero_or_pos (i - l.length) with e | e
    · rw [e] at h; simp at h; exact .inr ⟨by omega, h.symm⟩
    · rw [List.getElem?_eq_none (by simp; omega)] at h; cases h
/-- What a map says, as the walk has it. -/
def Says (D : DataW Unit) (f : Nat → Option Nat) : Prop := ∀ a, a < 65536 → Maps.has D (akey a) = (f a).isSome ∧ ∀ j, f a = some j → D.atKey (akey a) (.lit (.int .i64 0)) = .lit (.int .i64 (j : Int))
theorem says_put {w : World} {bm n : Nat} {D : DataW Unit} (hm : AMap w bm n D) {ps : List (List Nat)} {p : List Nat} {a : Nat} (h : Says D (edges ps p)) (hn : p ++ [a] ∉ ps) :
    Says (D.put (akey a) (.lit (.int .i64 ((ps.length : Nat) : Int)))) (edges (ps ++ [p ++ [a]]) p) := by
  intro b hb
  by_cases e : b = a
  · subst e
    rw [edges_new hn, Maps.has_put_same hm.isMap (show WideAt.IsKeyLit (akey b) from trivial)]
    refine ⟨rfl, fun j hj => ?_⟩
    cases hj
    exact Maps.atKey_put_same hm.isMap (show WideAt.IsKeyLit (akey b) from trivial) _ _
  · have hk : akey b ≠ akey a := fun q => e (akey_inj q)
    rw [edges_old (fun q => e (snoc_inj q).2), Maps.has_put_other hk]
    refine ⟨(h b hb).1, fun j hj => ?_⟩
    rw [Maps.atKey_put_other hk]; exact (h b hb).2 j hj
theorem MachAt.addEdge {w w1 w3 : World} {base : Nat} {B : MB} {cs : List (Value × Value)} {ps : List (List Nat)} {wh : List Nat → List Nat} (h : MachAt w base B cs ps wh) (ht : Tree ps) {k a bm n : Nat} {p : List Nat} {D : DataW Unit} {v v' : Value} {X : Obj}
    (hp : ps[k]? = some p) (hk : cs[k]? = some (.map (some bm), v)) (hn : p ++ [a] ∉ ps) (hwh : wh (p ++ [a]) = []) (hm : AMap w bm n D) (hnl : n ≤ ps.length) (hsy : Says D (edges ps p))
    (hm1 : AMap w1 bm (n + 1) (D.put (akey a) (.lit (.int .i64 ((ps.length : Nat) : Int))))) (g1 : w.grownBy w1 (some bm))
    (o3 : w3.ownsRow base 59 2 v' (cs.length + 1) (flat cs ++ [.map none, .slice none 0 0])) (g3 : (w1.alloc X).grownBy w3 (some B.g)) (s3 : SameOrNew (w1.alloc X) (.slice (some ⟨B.g, 0, none⟩) cs.length B.cap) v') :
    ∃ g' cap', v' = .slice (some ⟨g', 0, none⟩) (cs.length + 1) cap' ∧ MachAt (w3.setCell ⟨B.b, 0, none⟩ v') base ⟨B.b, g', cap', B.nw⟩ (cs ++ [(.map none, .slice none 0 0)]) (ps ++ [p ++ [a]]) wh := by
  have o3' := o3
  obtain ⟨_, ⟨_, e⟩ | ⟨g', cap', cur, rfl, hbg, hh, q1, q2, q3, q4⟩⟩ := o3
  · omega
  refine ⟨g', cap', rfl, ?_⟩
  have hfk : (flat cs)[2 * k]? = some (.map (some bm)) := cell_flat1 hk
  have hbm := h.blt hfk rfl
  have hbmg : bm ≠ B.g := fun e => (h.ag _ _ hfk).1 (by rw [← e]; rfl)
  have hbmb : bm ≠ B.b := fun e => (h.ag _ _ hfk).2 (by rw [← e]; rfl)
  have hbl := lt_of_obj h.hb
  have hgl := h.glt
  have z1 := g1.size
  have z2 : (w1.alloc X).heap.size = w1.heap.size + 1 := by simp
  have hg' : g' = B.g ∨ w1.heap.size + 1 ≤ g' := by
    rcases s3 with e | e
    · simp [Value.ownBlock] at e; exact .inl e
    · have := e g' rfl; exact .inr (by omega)
  have c1 : Chg (fun x => x = bm ∨ x = B.g ∨ x = B.b) w w1 := (Chg.of_grown g1).mono (fun x _ e => .inl (Option.some.inj e).symm)
  have c3 : Chg (fun x => x = B.g ∨ x = B.b) w1 (w3.setCell ⟨B.b, 0, none⟩ (.slice (some ⟨g', 0, none⟩) (cs.length + 1) cap')) :=
    ((chg_alloc _ w1 X).trans ((Chg.of_grown g3).mono (fun x _ e => .inl (Option.some.inj e).symm))).trans ((chg_cell w3 B.b 0 _).mono (fun x _ e => .inr e))
  have cc := c1.trans (c3.mono (T := fun x => x = bm ∨ x = B.g ∨ x = B.b) (fun x _ e => .inr e))
  have hoth : ∀ (i : Nat) u x, (flat cs)[i]? = some u → i ≠ 2 * k → blockOf u = some x → ¬ (x = bm ∨ x = B.g ∨ x = B.b) := fun i u x hu hne hx e => by
    rcases e with rfl | rfl | rfl
    · exact hne (h.ap i (2 * k) x u _ hu hfk hx rfl)
    · exact (h.ag i u hu).1 hx
    · exact (h.ag i u hu).2 hx
  have hb3 : w3.heap[B.b]? = some (.cells #[.slice (some ⟨B.g, 0, none⟩) cs.length B.cap, .int .i64 B.nw] 47 (0, 0)) := by
    have e1 := (Chg.of_grown g1).obj (fun e => hbmb (Option.some.inj e)) h.hb
    exact (Chg.of_grown g3).obj (fun e => h.bg (Option.some.inj e).symm) (obj_alloc X e1)
  have bg' : B.b ≠ g' := by rcases hg' with e | e; rw [e]; exact h.bg; omega
  have hfl : flat (cs ++ [(.map none, .slice none 0 0)]) = flat cs ++ [.map none, .slice none 0 0] := by rw [flat_append]; rfl
  have hlc : (cs ++ [((.map none : Value), (.slice none 0 0 : Value))]).length = cs.length + 1 := by simp
  refine ⟨?_, ?_, by simp [h.len], ?_, ?_, ?_, ?_, bg', h.bb⟩
  · rw [hlc]; exact (obj_setCell hb3 _).trans rfl
  · rw [hlc, hfl]
    exact own_chg o3' (chg_cell w3 B.b 0 _) (fun x hx e => bg' (by simp [Value.ownBlock] at hx; omega))
  · intro i q c hq hci
    rcases get_snoc hq with ⟨hil, hq0⟩ | ⟨hil, rfl⟩
    · have hci := ((get_snoc hci).resolve_right (fun e => by have := h.len; have := e.1; omega)).2
      clear hq
      have hq := hq0
      by_cases hik : i = k
      · subst hik
        obtain rfl : p = q := by rw [hp] at hq; exact Option.some.inj hq
        rw [hk] at hci
        cases hci
        refine EdgeMap.chg (w := w1) (.inr ⟨bm, n + 1, _, rfl, hbm.1, hm1, by simp; omega, says_put hm hsy hn⟩) c3 (fun x hx e => ?_)
        cases hx
        rcases e with e | e
        · exact hbmg e
        · exact hbmb e
      · have hqp : q ≠ p := fun e => hik (by
          subst e
          exact (List.getElem?_inj hil ht.nodup).1 (hq.trans hp.symm))
        have := h.emKept cc hoth i q c hq hci (by omega)
        have ef : edges (ps ++ [p ++ [a]]) q = edges ps q := funext fun b => edges_old (fun e => hqp (snoc_inj e).1)
        rw [ef]; exact this.mono (by simp)
    · rcases get_snoc hci with ⟨hjl, _⟩ | ⟨_, rfl⟩
      · have := h.len; omega
      refine .inl ⟨rfl, fun b _ => ?_⟩
      unfold edges
      rw [if_neg]
      rw [List.mem_append, List.mem_singleton]
      rintro (e | e)
      · exact hn (ht.down _ _ e)
      · have := congrArg List.length e; simp at this
  · intro i q c hq hci
    rcases get_snoc hq with ⟨hil, hq⟩ | ⟨hil, rfl⟩
    · have hci := ((get_snoc hci).resolve_right (fun e => by have := h.len; have := e.1; omega)).2
      exact h.ewKept cc hoth i q c hq hci (by omega)
    · rcases get_snoc hci with ⟨hjl, _⟩ | ⟨_, rfl⟩
      · have := h.len; omega
      rw [hwh]
      exact World.ownsRow_nil _ _ _ _
  · intro i j x u v hi hj hu hv
    rcases flat_snoc_get hi with hi | e
    · rcases flat_snoc_get hj with hj | e
      · exact h.ap i j x u v hi hj hu hv
      · rw [e] at hv; cases hv
    · rw [e] at hu; cases hu
  · intro i u hi
    rcases flat_snoc_get hi with hi | e
    · refine ⟨fun e => ?_, (h.ag i u hi).2⟩
      rcases hg' with q | q
      · exact (h.ag i u hi).1 (by rw [← q]; exact e)
      · have := (h.blt hi e).2
        have e : g' < w.heap.size := this
        omega
    · rw [e]; exact ⟨(fun q => by cases q), (fun q => by cases q)⟩
end Go.Proofs.Ytiidagdapckgjaa
