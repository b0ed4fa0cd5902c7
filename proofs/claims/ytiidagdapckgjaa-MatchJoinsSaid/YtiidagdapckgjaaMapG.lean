/-
  Maps of plain elements, in any program: what a map's block says of each key; lookups, stores, deletions.
-/
import Derived.Test.YtiidagdapckgjaaBase2
import Derived.Maps.Own
import Derived.Maps.OwnOps
import Derived.Maps.OwnSet
import Derived.Maps.Views
import Derived.Maps.RangeWalk
import Derived.WalkSpells
namespace Go.Proofs.Ytiidagdapckgjaa
open Go.RowKit Go.Maps

/-- Block b is a map that says f (of at most n entries). -/
def MapAt (P : Program) (k e : TypeId) (w : World) (b n : Nat) (f : Lit → Option (DataW Unit)) : Prop :=
  ∃ D : DataW Unit, w.ownsMap P k (plainElem P e) b n D ∧ ∀ kl, Maps.has D kl = (f kl).isSome ∧ ∀ d, f kl = some d → ∀ z, D.atKey kl z = d
open Classical in
noncomputable def putF (f : Lit → Option (DataW Unit)) (kl : Lit) (d : Option (DataW Unit)) : Lit → Option (DataW Unit) := fun x => if x = kl then d else f x
theorem putF_same (f : Lit → Option (DataW Unit)) (kl : Lit) (d : Option (DataW Unit)) : putF f kl d kl = d := if_pos rfl
theorem putF_other (f : Lit → Option (DataW Unit)) {kl x : Lit} (h : x ≠ kl) (d : Option (DataW Unit)) : putF f kl d x = f x := if_neg h
section
variable {P : Program} {k e : TypeId} {w : World} {b n : Nat} {f : Lit → Option (DataW Unit)}
theorem MapAt.made (P : Program) (k e : TypeId) (w : World) : MapAt P k e (w.alloc (.map #[] 0)) w.heap.size 0 (fun _ => none) :=
  ⟨.map [], World.ownsMap_made w P k _, fun _ => ⟨rfl, fun d h => by cases h⟩⟩
theorem MapAt.chg {S : Nat → Prop} {w' : World} (h : MapAt P k e w b n f) (hc : Chg S w w') (hs : ¬ S b) : MapAt P k e w' b n f := by
  obtain ⟨D, ⟨es, clock, hh, r⟩, q⟩ := h
  exact ⟨D, ⟨es, clock, hc.obj hs hh, r⟩, q⟩
theorem MapAt.mono {n' : Nat} (h : MapAt P k e w b n f) (hn : n ≤ n') : MapAt P k e w b n' f := by
  obtain ⟨D, h, q⟩ := h
  exact ⟨D, h.mono hn, q⟩
theorem MapAt.lt (h : MapAt P k e w b n f) : b < w.heap.size := by
  obtain ⟨D, h, q⟩ := h
  exact h.lt
theorem MapAt.at {D : DataW Unit} (q : ∀ kl, Maps.has D kl = (f kl).isSome ∧ ∀ d, f kl = some d → ∀ z, D.atKey kl z = d) (kl : Lit) (z : DataW Unit) : D.atKey kl z = (f kl).getD z := by
  obtain ⟨h1, h2⟩ := q kl
  cases hf : f kl with
  | none => rw [hf] at h1; exact atKey_of_not_has h1 z
  | some d => exact h2 d hf z
theorem MapAt.look {t : TypeId} (h : MapAt P k e w b n f) (K : Keyed P k) (ht : P.underlying t = some (.map k e)) {z : Value} (hz : (zeroValue e).run P w = .ok z w) {zd : DataW Unit} {zp : List MemPlace} (hzd : plainElem P e z = some (zd, zp))
    {key : Value} {kl : Lit} (hkey : keyOf P k key = some kl) : ∃ v ps, (Instr.lookup t (.map (some b)) key false).run P w = .ok v w ∧ plainElem P e v = some ((f kl).getD zd, ps) := by
  obtain ⟨D, h, q⟩ := h
  obtain ⟨v, ps, h1, h2⟩ := h.lookup K ht hz hzd hkey
  exact ⟨v, ps, h1, by rw [h2, MapAt.at q]⟩
theorem MapAt.look_ok {t : TypeId} (h : MapAt P k e w b n f) (K : Keyed P k) (ht : P.underlying t = some (.map k e)) {z : Value} (hz : (zeroValue e).run P w = .ok z w) {zd : DataW Unit} {zp : List MemPlace} (hzd : plainElem P e z = some (zd, zp))
    {key : Value} {kl : Lit} (hkey : keyOf P k key = some kl) : ∃ v ps, (Instr.lookup t (.map (some b)) key true).run P w = .ok (.tuple #[v, .bool (f kl).isSome]) w ∧ plainElem P e v = some ((f kl).getD zd, ps) := by
  obtain ⟨D, h, q⟩ := h
  obtain ⟨v, ps, h1, h2⟩ := h.look_ok K ht hz hzd hkey
  exact ⟨v, ps, by rw [h1, (q kl).1], by rw [h2, MapAt.at q]⟩
theorem MapAt.put {t : TypeId} (h : MapAt P k e w b n f) (K : Keyed P k) (ht : P.underlying t = some (.map k e)) (hn : n < maxLen) {key val : Value} {kl : Lit} {d : DataW Unit} {ps : List MemPlace}
    (hkey : keyOf P k key = some kl) (hv : plainElem P e val = some (d, ps)) : ∃ w', (Instr.mapUpdate t (.map (some b)) key val).run P w = .ok () w' ∧ MapAt P k e w' b (n + 1) (putF f kl (some d)) ∧ Chg (· = b) w w' := by
  obtain ⟨D, h, q⟩ := h
  obtain ⟨w', hr, h1, h2⟩ := h.update K ht hn hkey hv
  refine ⟨w', hr, ⟨_, h1, fun x => ?_⟩, (Chg.of_grown h2).mono (fun x _ e => by cases e; rfl)⟩
  have hk := K.key hkey
  by_cases hx : x = kl
  · subst hx
    rw [putF_same]
    exact ⟨has_put_same h.isMap hk d, fun d' e z => by cases e; exact atKey_put_same h.isMap hk d z⟩
  · rw [putF_other f hx, has_put_other hx]
    exact ⟨(q x).1, fun d' e z => by rw [atKey_put_other hx]; exact (q x).2 d' e z⟩
theorem MapAt.del {t : TypeId} (h : MapAt P k e w b n f) (K : Keyed P k) (ht : P.underlying t = some (.map k e)) {key : Value} {kl : Lit} (hkey : keyOf P k key = some kl) (ty : TypeId) :
    ∃ w', (Builtin.delete_ #[t, k] ty #[.map (some b), key]).run P w = .ok (.tuple #[]) w' ∧ MapAt P k e w' b n (putF f kl none) ∧ Chg (· = b) w w' := by
  obtain ⟨D, h, q⟩ := h
  obtain ⟨w', hr, h1, h2⟩ := h.drop K ht hkey ty
  refine ⟨w', hr, ⟨_, h1, fun x => ?_⟩, (Chg.of_grown h2.grown).mono (fun x _ e => by cases e; rfl)⟩
  by_cases hx : x = kl
  · subst hx
    rw [putF_same]
    exact ⟨has_del_same, fun d' e z => by cases e⟩
  · rw [putF_other f hx, has_del_other hx]
    exact ⟨(q x).1, fun d' e z => by rw [atKey_del_other hx]; exact (q x).2 d' e z⟩
theorem plainElem_bool_inv {P : Program} {e : TypeId} (he : P.underlying e = some .bool) {v : Value} {z : DataW Unit × List MemPlace} (h : plainElem P e v = some z) : ∃ a, v = .bool a ∧ z = (.lit (.bool a), []) := by
  unfold plainElem at h
  rw [he] at h
  cases v <;> simp at h
  exact ⟨_, rfl, h.symm⟩
end
section
variable {P : Program} {w : World} {ops : Array Oper} {rest : List Oper} {o : Oper} {a : Act} {Q : Exit → Act → World → Prop}
/-- 'm[x]' of a map of bools. -/
theorem wpList_look_bool (hg : o.guard = none) (m x : Operand) (t : TypeId) (hop : o.op = Op.lookup t m x false) (k e : TypeId) (K : Keyed P k) (ht : P.underlying t = some (.map k e)) (he : P.underlying e = some .bool) (hz : (zeroValue e).run P w = .ok (.bool false) w)
    (b n : Nat) (f : Lit → Option (DataW Unit)) (hm : a.eval m = .map (some b)) (hown : MapAt P k e w b n f) (key : Value) (kl : Lit) (hx : a.eval x = key) (hkey : keyOf P k key = some kl) (c : Bool) (hc : (f kl).getD (.lit (.bool false)) = .lit (.bool c))
    (hK : wpList P ops Q rest (a.put o.dst (.bool c)) w) : wpList P ops Q (o :: rest) a w := by
  refine wpList_plain hg fun K' hK' => ?_
  obtain ⟨v, ps, hrun, hv⟩ := hown.look K ht hz (plainElem_bool he false) hkey
  obtain ⟨c', rfl, e2⟩ := plainElem_bool_inv he hv
  rw [hc] at e2
  cases e2
  unfold Oper.wp
  simp [execOp, hop, hm, hx, hrun, Result.andThen]
  exact hK' _ _ hK
/-- 'v, ok := m[x]' of a map of ints. -/
theorem wpList_look_int (hg : o.guard = none) (m x : Operand) (t : TypeId) (hop : o.op = Op.lookup t m x true) (k e : TypeId) (q : IntKind) (K : Keyed P k) (ht : P.underlying t = some (.map k e)) (he : P.underlying e = some (.int q)) (hz : (zeroValue e).run P w = .ok (.int q 0) w)
    (b n : Nat) (f : Lit → Option (DataW Unit)) (hm : a.eval m = .map (some b)) (hown : MapAt P k e w b n f) (key : Value) (kl : Lit) (hx : a.eval x = key) (hkey : keyOf P k key = some kl) (c : Int) (hc : (f kl).getD (.lit (.int q 0)) = .lit (.int q c))
    (hK : wpList P ops Q rest (a.put o.dst (.tuple #[.int q c, .bool (f kl).isSome])) w) : wpList P ops Q (o :: rest) a w := by
  refine wpList_plain hg fun K' hK' => ?_
  obtain ⟨v, ps, hrun, hv⟩ := hown.look_ok K ht hz (plainElem_int he (by cases q <;> decide)) hkey
  obtain ⟨c', rfl, e2, _⟩ := plainElem_int_inv he hv
  rw [hc] at e2
  cases e2
  unfold Oper.wp
  simp [execOp, hop, hm, hx, hrun, Result.andThen]
  exact hK' _ _ hK
theorem wpList_put (hg : o.guard = none) (m x v : Operand) (t : TypeId) (hop : o.op = Op.mapUpdate t m x v) (k e : TypeId) (K : Keyed P k) (ht : P.underlying t = some (.map k e)) (b n : Nat) (f : Lit → Option (DataW Unit))
    (hm : a.eval m = .map (some b)) (hown : MapAt P k e w b n f) (hn : n < maxLen) (key val : Value) (kl : Lit) (hx : a.eval x = key) (hv : a.eval v = val) (hkey : keyOf P k key = some kl) (d : DataW Unit) (ps : List MemPlace) (hval : plainElem P e val = some (d, ps))
    (hK : ∀ w', MapAt P k e w' b (n + 1) (putF f kl (some d)) → Chg (· = b) w w' → wpList P ops Q rest (a.put o.dst undef) w') : wpList P ops Q (o :: rest) a w := by
  refine wpList_plain hg fun K' hK' => ?_
  obtain ⟨w', hrun, r1, r2⟩ := hown.put K ht hn hkey hval
  unfold Oper.wp
  simp [execOp, hop, hm, hx, hv, hrun, Result.andThen]
  exact hK' _ _ (hK w' r1 r2)
theorem wpList_del (hg : o.guard = none) (m x : Operand) (t k : TypeId) (hop : o.op = Op.call { callee := Callee.builtin Builtin.delete, args := #[m, x], argTypes := #[t, k] }) (e : TypeId) (K : Keyed P k) (ht : P.underlying t = some (.map k e)) (b n : Nat) (f : Lit → Option (DataW Unit))
    (hm : a.eval m = .map (some b)) (hown : MapAt P k e w b n f) (key : Value) (kl : Lit) (hx : a.eval x = key) (hkey : keyOf P k key = some kl)
    (hK : ∀ w', MapAt P k e w' b n (putF f kl none) → Chg (· = b) w w' → wpList P ops Q rest (a.put o.dst (.tuple #[])) w') : wpList P ops Q (o :: rest) a w := by
  refine wpList_plain hg fun K' hK' => ?_
  obtain ⟨w', hrun, r1, r2⟩ := hown.del K ht hkey o.type
  unfold Oper.wp
  simp [execOp, hop, resolve, invoke, builtin, hm, hx, hrun, Result.andThen]
  exact hK' _ _ (hK w' r1 r2)
end
end Go.Proofs.Ytiidagdapckgjaa
