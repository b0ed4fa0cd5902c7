/-
  CMap: what else.
-/
import Derived.Test.YthdfplafihmejaaGreatCMap
namespace Go.Proofs.YthdfplafihmejaaGreat
open Go.RowKit Go.Maps

open Classical in
theorem saysV_del {D : DataW Value} {f : Lit → Option Value} (q : SaysV D f) (kl : Lit) : SaysV (D.del kl) (putV f kl none) := by
 intro x
 by_cases hx : x = kl
 ·subst hx
  rw [putV_same]
  exact ⟨has_del_same, fun d e z => by cases e⟩
 ·rw [putV_other f hx, has_del_other hx]
  exact ⟨(q x).1, fun d e z => by rw [atKey_del_other hx]; exact (q x).2 d e z⟩
section
variable {P : Program} {k e : TypeId} {w : World} {b m : Nat} {f : Lit → Option Value}
theorem MapV.del {t : TypeId} (h : MapV P k w b m f) (K : Keyed P k) (ht : P.underlying t = some (.map k e)) {key : Value} {kl : Lit} (hkey : keyOf P k key = some kl) (ty : TypeId) :
  ∃ w' m', (Builtin.delete_ #[t, k] ty #[.map (some b), key]).run P w = .ok (.tuple #[]) w' ∧ m' + (if (f kl).isSome = true then 1 else 0) = m ∧ MapV P k w' b m' (putV f kl none) ∧ Chg (· = b) w w' := by
 obtain ⟨D, h, hm, q⟩ := h
 obtain ⟨w', hr, h1, h2⟩ := h.drop K ht hkey ty
 have hz := size_del (k := kl) (h.tidy K)
 rw [hm, (q kl).1] at hz
 exact ⟨w', _, hr, hz, ⟨_, ownsMap_tight h1, rfl, saysV_del q kl⟩, (Chg.of_grown h2.grown).mono (fun x _ e => by cases e; rfl)⟩
end
section
variable {P : Program} {w : World} {ops : Array Oper} {rest : List Oper} {o : Oper} {a : Act} {Q : Exit → Act → World → Prop}
/-- 'm[x]'. -/
theorem wpList_lookV (hg : o.guard = none) (m x : Operand) (t : TypeId) (hop : o.op = Op.lookup t m x false) (k e : TypeId) (K : Keyed P k) (ht : P.underlying t = some (.map k e)) (z : Value) (hz : (zeroValue e).run P w = .ok z w)
  (b n : Nat) (f : Lit → Option Value) (hm : a.eval m = .map (some b)) (hown : MapV P k w b n f) (key : Value) (kl : Lit) (hx : a.eval x = key) (hkey : keyOf P k key = some kl)
  (v : Value) (hv : (f kl).getD z = v) (hK : wpList P ops Q rest (a.put o.dst v) w) : wpList P ops Q (o :: rest) a w := by
 refine wpList_plain hg fun K' hK' => ?_
 obtain ⟨D, h, _, q⟩ := hown
 obtain ⟨v', ps, hrun, hv'⟩ := h.lookup K ht hz (show rawR z = some (.held z, []) from rfl) hkey
 rw [saysV_at q, hv] at hv'
 have hv' := rawR_inv hv'
 subst hv'
 unfold Oper.wp
 simp [execOp, hop, hm, hx, hrun, Result.andThen]
 exact hK' _ _ hK
theorem wpList_delV (hg : o.guard = none) (m x : Operand) (t k : TypeId) (hop : o.op = Op.call { callee := Callee.builtin Builtin.delete, args := #[m, x], argTypes := #[t, k] }) (e : TypeId) (K : Keyed P k) (ht : P.underlying t = some (.map k e)) (b n : Nat) (f : Lit → Option Value)
  (hm : a.eval m = .map (some b)) (hown : MapV P k w b n f) (key : Value) (kl : Lit) (hx : a.eval x = key) (hkey : keyOf P k key = some kl)
  (hK : ∀ w' n', MapV P k w' b n' (putV f kl none) → ((f kl).isSome = true → n' + 1 = n) → ((f kl).isSome = false → n' = n) → Chg (· = b) w w' → wpList P ops Q rest (a.put o.dst (.tuple #[])) w') : wpList P ops Q (o :: rest) a w := by
 refine wpList_plain hg fun K' hK' => ?_
 obtain ⟨w', n', hrun, r0, r1, r2⟩ := hown.del K ht hkey o.type
 unfold Oper.wp
 simp [execOp, hop, resolve, invoke, builtin, hm, hx, hrun, Result.andThen]
 exact hK' _ _ (hK w' n' r1 (fun h => by rw [if_pos h] at r0; exact r0) (fun h => by rw [h] at r0; simpa using r0) r2)
theorem wpList_lenV (hg : o.guard = none) (m : Operand) (t : TypeId) (hop : o.op = Op.call { callee := Callee.builtin Builtin.len, args := #[m], argTypes := #[t] }) (k e : TypeId) (ht : P.underlying t = some (.map k e)) (b n : Nat) (f : Lit → Option Value)
  (hm : a.eval m = .map (some b)) (hown : MapV P k w b n f) (hK : wpList P ops Q rest (a.put o.dst (.int .i64 (n : Int))) w) : wpList P ops Q (o :: rest) a w := by
 refine wpList_plain hg fun K' hK' => ?_
 obtain ⟨D, h, hz, q⟩ := hown
 have hrun := h.len ht o.type
 rw [hz] at hrun
 unfold Oper.wp
 simp [execOp, hop, resolve, invoke, builtin, hm, hrun, Result.andThen]
 exact hK' _ _ hK
end
section
variable {P : Program} {k e : TypeId} {w : World} {b r m cnt : Nat} {f : Lit → Option Value} {left : Lit → Bool}
theorem RangeV.map (h : RangeV P k w b r m f left cnt) : MapV P k w b m f := by
 obtain ⟨D, h, q⟩ := h
 exact ⟨D, h.owns, q⟩
theorem RangeV.left_eq (h : RangeV P k w b r m f left cnt) : w.rangeLeft b r = cnt := by
 obtain ⟨D, h, q⟩ := h
 exact h.left_eq
theorem RangeV.lt (h : RangeV P k w b r m f left cnt) : r < w.heap.size := by
 obtain ⟨D, h, q⟩ := h
 exact h.lt
theorem RangeV.chg {S : Nat → Prop} {w' : World} (h : RangeV P k w b r m f left cnt) (hc : Chg S w w') (hb : ¬ S b) (hr : ¬ S r) : RangeV P k w' b r m f left cnt := by
 obtain ⟨D, h, q⟩ := h
 obtain ⟨es, clock, since, seen, c0, h1, F, hs, hD, h2, rest⟩ := h
 exact ⟨D, ⟨es, clock, since, seen, c0, hc.obj hb h1, F, hs, hD, hc.obj hr h2, rest⟩, q⟩
theorem RangeV.ne_cells (h : RangeV P k w b r m f left cnt) {g : Nat} {cs : Array Value} {t : TypeId} {fz : Nat × Nat} (hg : w.heap[g]? = some (.cells cs t fz)) : g ≠ r := by
 obtain ⟨D, h, q⟩ := h
 obtain ⟨es, clock, since, seen, c0, h1, F, hs, hD, h2, rest⟩ := h
 intro e
 rw [e, h2] at hg
 cases hg
end
section
variable {P : Program} {w : World} {ops : Array Oper} {rest : List Oper} {o : Oper} {a : Act} {Q : Exit → Act → World → Prop}
theorem wpList_rangeV (hg : o.guard = none) (m : Operand) (t : TypeId) (hop : o.op = Op.range t m) (k e : TypeId) (K : Keyed P k) (ht : P.underlying t = some (.map k e)) (b n : Nat) (f : Lit → Option Value)
  (hm : a.eval m = .map (some b)) (hown : MapV P k w b n f)
  (hK : ∀ w', RangeV P k w' b w.heap.size n f (fun kl => (f kl).isSome) n → Chg (fun _ => False) w w' → w'.heap.size = w.heap.size + 1 → wpList P ops Q rest (a.put o.dst (.pointer (some ⟨w.heap.size, 0, none⟩))) w') :
  wpList P ops Q (o :: rest) a w := by
 obtain ⟨D, h, hz, q⟩ := hown
 refine wpList_range_own w hg m t hop k e K ht rawR b n D hm h fun w' r1 r2 r3 => ?_
 refine hK w' ⟨D, ?_, hz, q⟩ ((Chg.of_grown r2).mono (fun x _ e => by cases e)) r3
 rw [hz] at r1
 have : (Maps.has D) = fun kl => (f kl).isSome := funext fun kl => (q kl).1
 rwa [this] at r1
/-- The step, at keys of an integer kind. -/
theorem wpList_nextV (hg : o.guard = none) (it : Operand) (hop : o.op = Op.next it false) (k : TypeId) (qk : IntKind) (K : Keyed P k) (hk : P.underlying k = some (.int qk)) (b r n : Nat) (f : Lit → Option Value) (left : Lit → Bool) (cnt : Nat)
  (hit : a.eval it = .pointer (some ⟨r, 0, none⟩)) (h : RangeV P k w b r n f left cnt)
  (hDone : cnt = 0 → (∀ kl, left kl = false) → wpList P ops Q rest (a.put o.dst (.tuple #[.bool false])) w)
  (hMore : ∀ (x : Int) (v : Value) (w' : World) (cnt' : Nat), left (.int qk x) = true → f (.int qk x) = some v → RangeV P k w' b r n f (fun z => left z && !z.sameKey (.int qk x)) cnt' → cnt' < cnt → Chg (· = r) w w' → w'.heap.size = w.heap.size →
   (Instr.entry (.pointer (some ⟨r, 0, none⟩))).run P w' = .ok (.tuple #[.int qk x, v]) w' → wpList P ops Q rest (a.put o.dst (.tuple #[.bool true, .int qk x, v])) w') :
  wpList P ops Q (o :: rest) a w := by
 obtain ⟨D, h, hz, q⟩ := h
 refine wpList_next_ranges w hg it hop k K rawR (Value.int qk) (fun v : Value => v) (fun key kl hkey => by obtain ⟨x, rfl, _⟩ := Maps.keyOf_int_inv hk hkey; exact ⟨x, rfl⟩) (fun v y _ => ⟨v, rfl⟩) b r n D left cnt hit h hDone ?_
 intro x c kl y w' cnt' hkey hlk hv hat hrg hlt hgr hsz hen
 obtain ⟨x', ex, rfl, hwx⟩ := Maps.keyOf_int_inv hk hkey
 cases ex
 have hy : y = (.held c, []) := by unfold rawR at hv; cases hv; rfl
 subst hy
 have hf : f (.int qk x) = some c := by
  have hh : Maps.has D (.int qk x) = true := by
   refine has_true_of_atKey (y := .held c) fun z => hat z
  rw [(q _).1] at hh
  cases hfx : f (.int qk x) with
  | none => rw [hfx] at hh; cases hh
  | some v =>
   have := (q _).2 v hfx (.held c)
   rw [hat] at this
   cases this; rfl
 exact hMore x c w' cnt' hlk hf ⟨D, hrg, hz, q⟩ hlt ((Chg.of_grown hgr).mono (fun x _ e => by cases e; rfl)) hsz hen
end
end Go.Proofs.YthdfplafihmejaaGreat
