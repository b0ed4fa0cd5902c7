/-
  Package match: a machine where it lies: states, each with a map of atoms and a list of words; what its blocks are, and what each step of put leaves.
-/
import Derived.Test.YtiidagdapckgjaaMWord
import Derived.Maps.Own
import Derived.Maps.OwnOps
import Derived.Maps.OwnSet
import Derived.Maps.Views
import Derived.WalkSpells
namespace Go.Proofs.Ytiidagdapckgjaa
open Go.RowKit Go.Maps

theorem Try.atomKeyed : Keyed Try.prog 44 := int_keyed Try.underlying44
theorem Try.zeroInt (w : World) : (zeroValue 3).run Try.prog w = .ok (.int .i64 0) w := by kernel_rfl
def akey (a : Nat) : Lit := .int .u16 (a : Int)
theorem akey_of (a : Nat) (h : a < 65536) : keyOf Try.prog 44 (.int .u16 (a : Int)) = some (akey a) :=
  keyOf_int_mk Try.underlying44 (by simp only [Lit.wf, Bool.and_eq_true, decide_eq_true_eq]; exact ⟨by show (0 : Int) ≤ _; omega, by show _ ≤ (65535 : Int); omega⟩)
theorem akey_inj {a b : Nat} (h : akey a = akey b) : a = b := by
  simp only [akey, Lit.int.injEq, true_and] at h; omega
abbrev AMap (w : World) (bm n : Nat) (D : DataW Unit) : Prop := w.ownsMap Try.prog 44 (plainElem Try.prog 3) bm n D
/-- What a state's map says: from atoms to states. -/
def EdgeMap (w : World) (base L : Nat) (mv : Value) (f : Nat → Option Nat) : Prop :=
  (mv = .map none ∧ ∀ a, a < 65536 → f a = none) ∨
  ∃ bm n D, mv = .map (some bm) ∧ base ≤ bm ∧ AMap w bm n D ∧ n ≤ L ∧ ∀ a, a < 65536 → Maps.has D (akey a) = (f a).isSome ∧ ∀ j, f a = some j → D.atKey (akey a) (.lit (.int .i64 0)) = .lit (.int .i64 (j : Int))
def mapBlock : Value → Option Nat
  | .map r => r
  | _ => none
theorem EdgeMap.chg {S : Nat → Prop} {w w' : World} {base L : Nat} {mv : Value} {f : Nat → Option Nat} (h : EdgeMap w base L mv f) (hc : Chg S w w') (hs : ∀ k, mapBlock mv = some k → ¬ S k) : EdgeMap w' base L mv f := by
  rcases h with h | ⟨bm, n, D, rfl, hb, ⟨es, clock, hh, r⟩, q⟩
  · exact .inl h
  · exact .inr ⟨bm, n, D, rfl, hb, ⟨es, clock, hc.obj (hs bm rfl) hh, r⟩, q⟩
theorem EdgeMap.mono {w : World} {base L L' : Nat} {mv : Value} {f : Nat → Option Nat} (h : EdgeMap w base L mv f) (hl : L ≤ L') : EdgeMap w base L' mv f := by
  rcases h with h | ⟨bm, n, D, rfl, hb, hm, hn, q⟩
  · exact .inl h
  · exact .inr ⟨bm, n, D, rfl, hb, hm, by omega, q⟩
theorem EdgeMap.look {w : World} {base L : Nat} {mv : Value} {f : Nat → Option Nat} (h : EdgeMap w base L mv f) {a : Nat} (ha : a < 65536) :
    ∃ c : Int, (Instr.lookup 57 mv (.int .u16 (a : Int)) true).run Try.prog w = .ok (.tuple #[.int .i64 c, .bool (f a).isSome]) w ∧ ∀ j, f a = some j → c = (j : Int) := by
  rcases h with ⟨rfl, h⟩ | ⟨bm, n, D, rfl, hb, hown, hn, q⟩
  · refine ⟨0, ?_, fun j hj => by rw [h a ha] at hj; cases hj⟩
    have := Maps.look_nil (w := w) true Try.atomKeyed Try.underlying57 (Try.zeroInt w) (akey_of a ha)
    rw [h a ha]
    exact this
  · obtain ⟨q1, q2⟩ := q a ha
    obtain ⟨v, ps, hrun, hv⟩ := hown.look_ok Try.atomKeyed Try.underlying57 (Try.zeroInt w) (plainElem_int Try.underlying3 (by decide)) (akey_of a ha)
    obtain ⟨c, rfl, hc, hwc⟩ := plainElem_int_inv Try.underlying3 hv
    rw [q1] at hrun
    refine ⟨c, hrun, fun j hj => ?_⟩
    have e := congrArg Prod.fst hc
    simp only at e
    rw [q2 j hj] at e
    simpa using e.symm
theorem wpList_edge {w : World} {ops : Array Oper} {rest : List Oper} {o : Oper} {a : Act} {Q : Exit → Act → World → Prop} (hgd : o.guard = none) (m x : Operand) (hop : o.op = Op.lookup 57 m x true)
    (base L : Nat) (mv : Value) (f : Nat → Option Nat) (hm : a.eval m = mv) (h : EdgeMap w base L mv f) (k : Nat) (hk : k < 65536) (hx : a.eval x = .int .u16 (k : Int))
    (hK : ∀ c : Int, (∀ j, f k = some j → c = (j : Int)) → wpList Try.prog ops Q rest (a.put o.dst (.tuple #[.int .i64 c, .bool (f k).isSome])) w) : wpList Try.prog ops Q (o :: rest) a w := by
  refine wpList_plain hgd fun K' hK' => ?_
  obtain ⟨c, hrun, hc⟩ := h.look hk
  unfold Oper.wp
  simp [execOp, hop, hm, hx, hrun, Result.andThen]
  exact hK' _ _ (hK c hc)

/-- The cells of the states. -/
def flat (cs : List (Value × Value)) : List Value := cs.flatMap fun c => [c.1, c.2]
theorem flat_length (cs : List (Value × Value)) : (flat cs).length = 2 * cs.length := by
  induction cs with
  | nil => rfl
  | cons c r ih => simp [flat] at ih ⊢; omega
theorem flat_get (cs : List (Value × Value)) : ∀ k c, cs[k]? = some c → (flat cs)[2 * k]? = some c.1 ∧ (flat cs)[2 * k + 1]? = some c.2 := by
  induction cs with
  | nil => intro k c h; simp at h
  | cons x r ih =>
    intro k c h
    rcases k with _ | k
    · simp at h; subst h; exact ⟨rfl, rfl⟩
    · have := ih k c (by simpa using h)
      show (x.1 :: x.2 :: flat r)[2 * (k + 1)]? = _ ∧ (x.1 :: x.2 :: flat r)[2 * (k + 1) + 1]? = _
      rw [show 2 * (k + 1) = 2 * k + 1 + 1 from by omega]
      simpa using this
theorem flat_append (a b : List (Value × Value)) : flat (a ++ b) = flat a ++ flat b := by unfold flat; rw [List.flatMap_append]
theorem flat_set1 (cs : List (Value × Value)) : ∀ k c, cs[k]? = some c → ∀ v, (flat cs).set (2 * k) v = flat (cs.set k (v, c.2)) := by
  induction cs with
  | nil => intro k c h; simp at h
  | cons x r ih =>
    intro k c h v
    rcases k with _ | k
    · simp at h; subst h; rfl
    · have := ih k c (by simpa using h) v
      show (x.1 :: x.2 :: flat r).set (2 * (k + 1)) v = _
      rw [show 2 * (k + 1) = 2 * k + 1 + 1 from by omega]
      simp only [List.set_cons_succ, this]; rfl
theorem flat_set2 (cs : List (Value × Value)) : ∀ k c, cs[k]? = some c → ∀ v, (flat cs).set (2 * k + 1) v = flat (cs.set k (c.1, v)) := by
  induction cs with
  | nil => intro k c h; simp at h
  | cons x r ih =>
    intro k c h v
    rcases k with _ | k
    · simp at h; subst h; rfl
    · have := ih k c (by simpa using h) v
      show (x.1 :: x.2 :: flat r).set (2 * (k + 1) + 1) v = _
      rw [show 2 * (k + 1) + 1 = 2 * k + 1 + 1 + 1 from by omega]
      simp only [List.set_cons_succ, this]; rfl
def ints (l : List Nat) : List Value := l.map fun (n : Nat) => .int .i64 (n : Int)
/-- The block of a cell's value: a map's or a row's. -/
def blockOf : Value → Option Nat
  | .map r => r
  | .slice (some a) _ _ => some a.block
  | _ => none
/-- From atoms to states, by the paths. -/
def edges (ps : List (List Nat)) (p : List Nat) (a : Nat) : Option Nat := if p ++ [a] ∈ ps then some (ps.idxOf (p ++ [a])) else none
structure MB where
  b : Nat
  g : Nat
  cap : Nat
  nw : Nat
/-- A machine: its block, its states' row, each state's map and words; all its blocks lie from 'base' on, and no two are one. -/
structure MachAt (w : World) (base : Nat) (B : MB) (cs : List (Value × Value)) (ps : List (List Nat)) (wh : List Nat → List Nat) : Prop where
  hb : w.heap[B.b]? = some (.cells #[.slice (some ⟨B.g, 0, none⟩) cs.length B.cap, .int .i64 B.nw] 47 (0, 0))
  hg : w.ownsRow base 59 2 (.slice (some ⟨B.g, 0, none⟩) cs.length B.cap) cs.length (flat cs)
  len : cs.length = ps.length
  em : ∀ (k : Nat) p c, ps[k]? = some p → cs[k]? = some c → EdgeMap w base ps.length c.1 (edges ps p)
  ew : ∀ (k : Nat) p c, ps[k]? = some p → cs[k]? = some c → w.ownsRow base 3 1 c.2 (wh p).length (ints (wh p))
  ap : ∀ (i j x : Nat) u v, (flat cs)[i]? = some u → (flat cs)[j]? = some v → blockOf u = some x → blockOf v = some x → i = j
  ag : ∀ (i : Nat) u, (flat cs)[i]? = some u → blockOf u ≠ some B.g ∧ blockOf u ≠ some B.b
  bg : B.b ≠ B.g
  bb : base ≤ B.b
end Go.Proofs.Ytiidagdapckgjaa
