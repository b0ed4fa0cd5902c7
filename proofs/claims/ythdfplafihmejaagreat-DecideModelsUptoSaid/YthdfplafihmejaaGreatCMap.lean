/-
  Maps whose elements are told as they lie there: lookups, stores, deletions, how many there are, ranges.
-/
import Derived.Test.YthdfplafihmejaaGreatKit2
import Derived.Maps.Own
import Derived.Maps.OwnOps
import Derived.Maps.OwnSet
import Derived.Maps.Views
import Derived.Maps.RangeWalk
import Derived.WalkSpells
namespace Go.Proofs.YthdfplafihmejaaGreat
open Go.RowKit Go.Maps

/-- A map's element, as it lies there. -/
def rawR (v : Value) : Option (DataW Value × List MemPlace) := some (.held v, [])
def SaysV (D : DataW Value) (f : Lit → Option Value) : Prop := ∀ kl, Maps.has D kl = (f kl).isSome ∧ ∀ v, f kl = some v → ∀ z, D.atKey kl z = .held v
/-- Block b is a map of m entries that says f. -/
def MapV (P : Program) (k : TypeId) (w : World) (b m : Nat) (f : Lit → Option Value) : Prop :=
 ∃ D : DataW Value, w.ownsMap P k rawR b m D ∧ Maps.size D = m ∧ SaysV D f
open Classical in
noncomputable def putV (f : Lit → Option Value) (kl : Lit) (d : Option Value) : Lit → Option Value := fun x => if x = kl then d else f x
theorem putV_same (f : Lit → Option Value) (kl : Lit) (d : Option Value) : putV f kl d kl = d := if_pos rfl
theorem putV_other (f : Lit → Option Value) {kl x : Lit} (h : x ≠ kl) (d : Option Value) : putV f kl d x = f x := if_neg h
theorem ownsMap_tight {H : Type} {P : Program} {k : TypeId} {R : Value → Option (DataW H × List MemPlace)} {w : World} {b n : Nat} {D : DataW H} (h : w.ownsMap P k R b n D) : w.ownsMap P k R b (Maps.size D) D := by
 obtain ⟨es, clock, hb, F, _, rfl⟩ := h
 exact ⟨es, clock, hb, F, by simp [Maps.size, length_sorted], rfl⟩
theorem saysV_at {D : DataW Value} {f : Lit → Option Value} (q : SaysV D f) (kl : Lit) (z : Value) : D.atKey kl (.held z) = .held ((f kl).getD z) := by
 obtain ⟨h1, h2⟩ := q kl
 cases hf : f kl with
 | none => rw [hf] at h1; exact atKey_of_not_has h1 _
 | some d => exact h2 d hf _
theorem saysV_put {D : DataW Value} {f : Lit → Option Value} (q : SaysV D f) (hD : IsMap D) {kl : Lit} (hk : WideAt.IsKeyLit kl) (v : Value) : SaysV (D.put kl (.held v)) (putV f kl (some v)) := by
 intro x
 by_cases hx : x = kl
 ·subst hx
  rw [putV_same]
  exact ⟨has_put_same hD hk _, fun d e z => by cases e; exact atKey_put_same hD hk _ z⟩
 ·rw [putV_other f hx, has_put_other hx]
  exact ⟨(q x).1, fun d e z => by rw [atKey_put_other hx]; exact (q x).2 d e z⟩
theorem rawR_inv {v : Value} {d : Value} {ps : List MemPlace} (h : rawR v = some (.held d, ps)) : v = d := by
 unfold rawR at h
 cases h; rfl
section
variable {P : Program} {k e : TypeId} {w : World} {b m : Nat} {f : Lit → Option Value}
theorem MapV.made (P : Program) (k : TypeId) (w : World) : MapV P k (w.alloc (.map #[] 0)) w.heap.size 0 (fun _ => none) :=
 ⟨.map [], World.ownsMap_made w P k _, rfl, fun _ => ⟨rfl, fun d h => by cases h⟩⟩
theorem MapV.chg {S : Nat → Prop} {w' : World} (h : MapV P k w b m f) (hc : Chg S w w') (hs : ¬ S b) : MapV P k w' b m f := by
 obtain ⟨D, ⟨es, clock, hh, r⟩, q⟩ := h
 exact ⟨D, ⟨es, clock, hc.obj hs hh, r⟩, q⟩
theorem MapV.lt (h : MapV P k w b m f) : b < w.heap.size := by
 obtain ⟨D, h, q⟩ := h
 exact h.lt
/-- A map's block is no row of cells. -/
theorem MapV.ne_cells (h : MapV P k w b m f) {g : Nat} {cs : Array Value} {t : TypeId} {fz : Nat × Nat} (hg : w.heap[g]? = some (.cells cs t fz)) : g ≠ b := by
 obtain ⟨D, ⟨es, clock, hh, r⟩, q⟩ := h
 intro e
 rw [e, hh] at hg
 cases hg
theorem MapV.put {t : TypeId} (h : MapV P k w b m f) (K : Keyed P k) (ht : P.underlying t = some (.map k e)) (hn : m < maxLen) {key val : Value} {kl : Lit} (hkey : keyOf P k key = some kl) :
  ∃ w', (Instr.mapUpdate t (.map (some b)) key val).run P w = .ok () w' ∧ MapV P k w' b (if (f kl).isSome = true then m else m + 1) (putV f kl (some val)) ∧ Chg (· = b) w w' := by
 obtain ⟨D, h, hm, q⟩ := h
 obtain ⟨w', hr, h1, h2⟩ := h.update K ht hn hkey (show rawR val = some (.held val, []) from rfl)
 have hz : Maps.size (D.put kl (.held val)) = if (f kl).isSome = true then m else m + 1 := by
  rw [size_put (h.tidy K), hm, (q kl).1]
 refine ⟨w', hr, ⟨_, ?_, hz, saysV_put q h.isMap (K.key hkey) val⟩, (Chg.of_grown h2).mono (fun x _ e => by cases e; rfl)⟩
 have := ownsMap_tight h1
 rwa [hz] at this
end
section
variable {P : Program} {w : World} {ops : Array Oper} {rest : List Oper} {o : Oper} {a : Act} {Q : Exit → Act → World → Prop}
/-- 'v, ok := m[x]'. -/
theorem wpList_lookV_ok (hg : o.guard = none) (m x : Operand) (t : TypeId) (hop : o.op = Op.lookup t m x true) (k e : TypeId) (K : Keyed P k) (ht : P.underlying t = some (.map k e)) (z : Value) (hz : (zeroValue e).run P w = .ok z w)
  (b n : Nat) (f : Lit → Option Value) (hm : a.eval m = .map (some b)) (hown : MapV P k w b n f) (key : Value) (kl : Lit) (hx : a.eval x = key) (hkey : keyOf P k key = some kl)
  (v : Value) (r : Bool) (hv : (f kl).getD z = v) (hr : (f kl).isSome = r) (hK : wpList P ops Q rest (a.put o.dst (.tuple #[v, .bool r])) w) : wpList P ops Q (o :: rest) a w := by
 refine wpList_plain hg fun K' hK' => ?_
 obtain ⟨D, h, _, q⟩ := hown
 obtain ⟨v', ps, hrun, hv'⟩ := h.look_ok K ht hz (show rawR z = some (.held z, []) from rfl) hkey
 rw [saysV_at q, hv] at hv'
 have hv' := rawR_inv hv'
 subst hv'
 rw [(q kl).1, hr] at hrun
 unfold Oper.wp
 simp [execOp, hop, hm, hx, hrun, Result.andThen]
 exact hK' _ _ hK
theorem wpList_putV (hg : o.guard = none) (m x v : Operand) (t : TypeId) (hop : o.op = Op.mapUpdate t m x v) (k e : TypeId) (K : Keyed P k) (ht : P.underlying t = some (.map k e)) (b n : Nat) (f : Lit → Option Value)
  (hm : a.eval m = .map (some b)) (hown : MapV P k w b n f) (hn : n < maxLen) (key val : Value) (kl : Lit) (hx : a.eval x = key) (hv : a.eval v = val) (hkey : keyOf P k key = some kl)
  (hK : ∀ w' n', MapV P k w' b n' (putV f kl (some val)) → ((f kl).isSome = true → n' = n) → ((f kl).isSome = false → n' = n + 1) → n' ≤ n + 1 → Chg (· = b) w w' → wpList P ops Q rest (a.put o.dst undef) w') : wpList P ops Q (o :: rest) a w := by
 refine wpList_plain hg fun K' hK' => ?_
 obtain ⟨w', hrun, r1, r2⟩ := hown.put (val := val) K ht hn hkey
 unfold Oper.wp
 simp [execOp, hop, hm, hx, hv, hrun, Result.andThen]
 refine hK' _ _ (hK w' _ r1 (fun h => by rw [if_pos h]) (fun h => by rw [h]; rfl) (by split <;> omega) r2)
end
/-! ranges -/
/-- 'for .. := range m' under way, at iterator r. -/
def RangeV (P : Program) (k : TypeId) (w : World) (b r m : Nat) (f : Lit → Option Value) (left : Lit → Bool) (cnt : Nat) : Prop :=
 ∃ D : DataW Value, w.ranges P k rawR b r m D left cnt ∧ Maps.size D = m ∧ SaysV D f
section
variable {P : Program} {k e : TypeId} {w : World} {b r m cnt : Nat} {f : Lit → Option Value} {left : Lit → Bool}
end
section
variable {P : Program} {w : World} {ops : Array Oper} {rest : List Oper} {o : Oper} {a : Act} {Q : Exit → Act → World → Prop}
end
end Go.Proofs.YthdfplafihmejaaGreat
