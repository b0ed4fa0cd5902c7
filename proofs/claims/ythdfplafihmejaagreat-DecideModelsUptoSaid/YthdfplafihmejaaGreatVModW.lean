/-
  Models, in plain Lean: relations of eight worlds.
  Models: relations of eight worlds as bytes; a model's rows in memory.
  Package model: relations.
  Package model: what a model tells of words, of sets.
  Package model: read, May.
-/
import Derived.Test.YthdfplafihmejaaGreatKit2
import Derived.Test.YthdfplafihmejaaGreatRPlain
import Derived.Test.YthdfplafihmejaaGreatCMapY
import Derived.Laws.BitsAllLaws
import Derived.Test.YthdfplafihmejaaGreatRBase
namespace Go.Proofs.YthdfplafihmejaaGreat

def bitR (r : List Nat) (i k : Nat) : Bool := (r.getD i 0).testBit k
def rowT (s : List Nat) (a n : Nat) : Nat := (List.range n).foldl (fun acc j => if a.testBit j = true then acc ||| s.getD j 0 else acc) 0
def thenB (r s : List Nat) : List Nat := (List.range 8).map fun i => rowT s (r.getD i 0) 8
def orR (r s : List Nat) : List Nat := (List.range 8).map fun i => r.getD i 0 ||| s.getD i 0
def SubR (r s : List Nat) : Prop := ∀ i k, i < 8 → bitR r i k = true → bitR s i k = true
theorem SubR.refl (r : List Nat) : SubR r r := fun _ _ _ h => h
theorem SubR.trans {r s t : List Nat} (h : SubR r s) (k : SubR s t) : SubR r t := fun i j hi q => k i j hi (h i j hi q)
theorem rowT_succ (s : List Nat) (a n : Nat) : rowT s a (n + 1) = if a.testBit n = true then rowT s a n ||| s.getD n 0 else rowT s a n := by
 unfold rowT
 rw [List.range_succ, List.foldl_append]; rfl
theorem rowT_bit {s : List Nat} {a k : Nat} : ∀ {n : Nat}, (rowT s a n).testBit k = true ↔ ∃ j, j < n ∧ a.testBit j = true ∧ bitR s j k = true
 | 0 => by
  constructor
  · intro h; simp [rowT] at h
  · rintro ⟨j, h, _⟩; omega
 | n + 1 => by
  rw [rowT_succ]
  by_cases hb : a.testBit n = true
  · rw [if_pos hb, Nat.testBit_or, Bool.or_eq_true, rowT_bit (n := n)]
    constructor
    · rintro (⟨j, h1, h2, h3⟩ | h)
      · exact ⟨j, by omega, h2, h3⟩
      · exact ⟨n, by omega, hb, h⟩
    · rintro ⟨j, h1, h2, h3⟩
      by_cases e : j = n
      · subst e; exact .inr h3
      · exact .inl ⟨j, by omega, h2, h3⟩
  · rw [if_neg hb, rowT_bit (n := n)]
    constructor
    · rintro ⟨j, h1, h2, h3⟩; exact ⟨j, by omega, h2, h3⟩
    · rintro ⟨j, h1, h2, h3⟩
      by_cases e : j = n
      · subst e; exact absurd h2 hb
      · exact ⟨j, by omega, h2, h3⟩
theorem map8 (f : Nat → Nat) {i : Nat} (hi : i < 8) : ((List.range 8).map f).getD i 0 = f i := by
 rw [List.getD_eq_getElem?_getD, List.getElem?_map, List.getElem?_range hi]; rfl
theorem then_bit {r s : List Nat} {i k : Nat} (hi : i < 8) : bitR (thenB r s) i k = true ↔ ∃ j, j < 8 ∧ bitR r i j = true ∧ bitR s j k = true := by
 unfold bitR thenB
 rw [map8 _ hi]
 exact rowT_bit
theorem or_bit {r s : List Nat} {i k : Nat} (hi : i < 8) : bitR (orR r s) i k = true ↔ bitR r i k = true ∨ bitR s i k = true := by
 unfold bitR orR
 rw [map8 _ hi, Nat.testBit_or, Bool.or_eq_true]
theorem then_mono {r r' s s' : List Nat} (h : SubR r r') (k : SubR s s') : SubR (thenB r s) (thenB r' s') := fun i j hi q => by
 obtain ⟨m, hm, q1, q2⟩ := (then_bit hi).1 q
 exact (then_bit hi).2 ⟨m, hm, h i m hi q1, k m j hm q2⟩
theorem then_assoc (r s t : List Nat) : thenB (thenB r s) t = thenB r (thenB s t) := by
 have hl : ∀ a b : List Nat, (thenB a b).length = 8 := fun a b => by unfold thenB; rw [List.length_map, List.length_range]
 apply List.ext_getElem?
 intro i
 by_cases hi : i < 8
 · rw [List.getElem?_eq_getElem (by rw [hl]; exact hi), List.getElem?_eq_getElem (by rw [hl]; exact hi)]
   congr 1
   have e : ∀ a b : List Nat, ∀ h : i < (thenB a b).length, (thenB a b)[i] = (thenB a b).getD i 0 := fun a b h => by rw [List.getD_eq_getElem?_getD, List.getElem?_eq_getElem h]; rfl
   rw [e, e]
   refine Nat.eq_of_testBit_eq fun k => Bool.eq_iff_iff.2 ?_
   show bitR (thenB (thenB r s) t) i k = true ↔ bitR (thenB r (thenB s t)) i k = true
   rw [then_bit hi, then_bit hi]
   constructor
   · rintro ⟨j, hj, h1, h2⟩
     obtain ⟨m, hm, h3, h4⟩ := (then_bit hi).1 h1
     exact ⟨m, hm, h3, (then_bit hm).2 ⟨j, hj, h4, h2⟩⟩
   · rintro ⟨m, hm, h1, h2⟩
     obtain ⟨j, hj, h3, h4⟩ := (then_bit hm).1 h2
     exact ⟨j, hj, (then_bit hi).2 ⟨m, hm, h1, h3⟩, h4⟩
 · rw [List.getElem?_eq_none (by rw [hl]; omega), List.getElem?_eq_none (by rw [hl]; omega)]
/-- A word's relation, by its atoms'. -/
def relGo (f : Nat → List Nat) (r : List Nat) (l : List Nat) : List Nat := l.foldl (fun r a => thenB r (f a)) r
def relA (f : Nat → List Nat) : List Nat → List Nat
 | [] => []
 | a :: l => relGo f (f a) l
theorem relGo_cons (f : Nat → List Nat) (r : List Nat) : ∀ (l : List Nat) (a : Nat), relGo f r (a :: l) = thenB r (relGo f (f a) l) := by
 intro l
 induction l generalizing r with
 | nil => intro a; rfl
 | cons x l ih =>
  intro a
  show relGo f (thenB r (f a)) (x :: l) = thenB r (relGo f (f a) (x :: l))
  rw [ih, ih, then_assoc]
theorem relA_append (f : Nat → List Nat) {a b : Nat} {l m : List Nat} : relA f (a :: l ++ b :: m) = thenB (relA f (a :: l)) (relA f (b :: m)) := by
 show relGo f (f a) (l ++ b :: m) = thenB (relGo f (f a) l) (relGo f (f b) m)
 unfold relGo
 rw [List.foldl_append]
 exact relGo_cons f _ m b
theorem relA_app (f : Nat → List Nat) : ∀ {l m : List Nat}, l ≠ [] → m ≠ [] → relA f (l ++ m) = thenB (relA f l) (relA f m)
 | [], _, h, _ => absurd rfl h
 | _ :: _, [], _, h => absurd rfl h
 | _ :: _, _ :: _, _, _ => relA_append f
theorem relA_right (f : Nat → List Nat) {l l' m : List Nat} (h : l ≠ []) (h' : l' ≠ []) (k : SubR (relA f l) (relA f l')) : SubR (relA f (l ++ m)) (relA f (l' ++ m)) := by
 by_cases hm : m = []
 · subst hm; rw [List.append_nil, List.append_nil]; exact k
 · rw [relA_app f h hm, relA_app f h' hm]; exact then_mono k (SubR.refl _)
theorem relA_left (f : Nat → List Nat) {l m m' : List Nat} (h : m ≠ []) (h' : m' ≠ []) (k : SubR (relA f m) (relA f m')) : SubR (relA f (l ++ m)) (relA f (l ++ m')) := by
 by_cases hl : l = []
 · subst hl; exact k
 · rw [relA_app f hl h, relA_app f hl h']; exact then_mono (SubR.refl _) k
/-- What stands in the middle may be taken for more. -/
theorem relA_mid (f : Nat → List Nat) {p q m m' : List Nat} (h : m ≠ []) (h' : m' ≠ []) (k : SubR (relA f m) (relA f m')) : SubR (relA f (p ++ m ++ q)) (relA f (p ++ m' ++ q)) :=
 relA_right f (by simp [h]) (by simp [h']) (relA_left f h h' k)
def relW (f : Nat → List Nat) (w : Wd) : List Nat := relA f (atoms w)
theorem atoms_ne {v : Wd} (h : mayB v = true) : atoms v ≠ [] := fun e => by
 have h1 := atoms_length v
 rw [e] at h1
 have := (may_pos h).1
 unfold alen at h1
 simp at h1
 omega
/-- A set's relation. -/
def relS (f : Nat → List Nat) (l : List ByteArray) : List Nat := l.foldl (fun r w => orR r (relW f w.data.toList)) (List.replicate 8 0)
end Go.Proofs.YthdfplafihmejaaGreat

namespace Go.Proofs.YthdfplafihmejaaGreat
open Go.RowKit Go.Maps

def u8L (l : List Nat) : List Value := l.map fun (n : Nat) => Value.int .u8 (n : Int)
def relV (r : List Nat) : Value := .agg (u8L r).toArray
structure Rel8 (r : List Nat) : Prop where
 len : r.length = 8
 lt : ∀ i, r.getD i 0 < 256
theorem u8L_get {l : List Nat} {i : Nat} (h : i < l.length) : (u8L l)[i]? = some (.int .u8 (l.getD i 0 : Nat)) := by
 unfold u8L
 rw [List.getElem?_map, List.getElem?_eq_getElem h, List.getD_eq_getElem?_getD, List.getElem?_eq_getElem h]; rfl
theorem rel8_lit {r : List Nat} (h : Rel8 r) : ∃ a b c d e f g i, r = [a, b, c, d, e, f, g, i] := by
 match r, h.len with
 | [a, b, c, d, e, f, g, i], _ => exact ⟨a, b, c, d, e, f, g, i, rfl⟩
theorem rowT_lt {s : List Nat} (hs : ∀ i, s.getD i 0 < 256) (a : Nat) : ∀ n, rowT s a n < 256
 | 0 => by show (0 : Nat) < 256; omega
 | n + 1 => by
  rw [rowT_succ]
  split
  · exact Nat.or_lt_two_pow (n := 8) (rowT_lt hs a n) (hs n)
  · exact rowT_lt hs a n
theorem getD_out {r : List Nat} (h : r.length = 8) {i : Nat} (hi : ¬ i < 8) : r.getD i 0 = 0 := by
 rw [List.getD_eq_getElem?_getD, List.getElem?_eq_none (by omega)]; rfl
theorem Rel8.map (f : Nat → Nat) (h : ∀ i, f i < 256) : Rel8 ((List.range 8).map f) := by
 have hl : ((List.range 8).map f).length = 8 := by rw [List.length_map, List.length_range]
 refine ⟨hl, fun i => ?_⟩
 by_cases hi : i < 8
 · rw [map8 _ hi]; exact h i
 · rw [getD_out hl hi]; omega
theorem Rel8.then {r s : List Nat} (hs : Rel8 s) : Rel8 (thenB r s) := Rel8.map _ fun _ => rowT_lt hs.lt _ _
theorem Rel8.or {r s : List Nat} (hr : Rel8 r) (hs : Rel8 s) : Rel8 (orR r s) := Rel8.map _ fun i => Nat.or_lt_two_pow (n := 8) (hr.lt i) (hs.lt i)
theorem Rel8.zero : Rel8 (List.replicate 8 0) := ⟨rfl, fun i => by
 rw [List.getD_eq_getElem?_getD, List.getElem?_replicate]
 split <;> simp⟩
theorem bit_u8 {a : Nat} (ha : a < 256) (j : Nat) : bits .and .u8 ((a : Int) / 2 ^ j) 1 = if a.testBit j = true then 1 else 0 := by
 have h1 : ((a : Int) / 2 ^ j) = ((a / 2 ^ j : Nat) : Int) := by simp
 have h2 : a / 2 ^ j < 256 := Nat.lt_of_le_of_lt (Nat.div_le_self _ _) ha
 rw [h1, show (1 : Int) = ((1 : Nat) : Int) from rfl, u8_and_nat _ _ h2 (by omega), Nat.and_one_is_mod, Nat.testBit_eq_decide_div_mod_eq]
 by_cases h : a / 2 ^ j % 2 = 1
 · rw [h, if_pos (by simp)]
 · rw [if_neg (by simp; omega)]
   have : a / 2 ^ j % 2 = 0 := by omega
   rw [this]; rfl
/-- Does one byte lie within another one? -/
def subN (a b : Nat) : Bool := decide (a &&& (255 - b) = 0)
theorem sub_u8 {a b : Nat} (ha : a < 256) (hb : b < 256) : (bits .andNot .u8 (a : Int) (b : Int) != 0) = !subN a b := by
 rw [u8_andNot_nat _ _ ha hb]
 unfold subN
 by_cases h : a &&& (255 - b) = 0
 · rw [h]; simp
 · rw [decide_eq_false h, Bool.not_false, bne_iff_ne]; omega
theorem bit_255 {b : Nat} (hb : b < 256) {k : Nat} (hk : k < 8) : (255 - b).testBit k = !b.testBit k := by
 have : 255 - b = 2 ^ 8 - (b + 1) := by omega
 rw [this, Nat.testBit_two_pow_sub_succ hb, decide_eq_true hk, Bool.true_and]
theorem subN_iff {a b : Nat} (ha : a < 256) (hb : b < 256) : subN a b = true ↔ ∀ k, a.testBit k = true → b.testBit k = true := by
 unfold subN
 rw [decide_eq_true_iff]
 constructor
 · intro h k hk
   have hk8 : k < 8 := by
    rcases Nat.lt_or_ge k 8 with q | q
    · exact q
    · have : a.testBit k = false := Nat.testBit_lt_two_pow (Nat.lt_of_lt_of_le ha (Nat.pow_le_pow_right (n := 2) (by omega) q))
      rw [hk] at this; cases this
   have := congrArg (fun n => n.testBit k) h
   simp only [Nat.testBit_and, hk, Bool.true_and, Nat.zero_testBit] at this
   rw [bit_255 hb hk8] at this
   simpa using this
 · intro h
   refine Nat.eq_of_testBit_eq fun k => ?_
   rw [Nat.testBit_and, Nat.zero_testBit]
   cases hk : a.testBit k with
   | false => rfl
   | true =>
    have hk8 : k < 8 := by
     rcases Nat.lt_or_ge k 8 with q | q
     · exact q
     · have : a.testBit k = false := Nat.testBit_lt_two_pow (Nat.lt_of_lt_of_le ha (Nat.pow_le_pow_right (n := 2) (by omega) q))
       rw [hk] at this; cases this
    rw [bit_255 hb hk8, h k hk]; rfl
def subTo (r s : List Nat) (n : Nat) : Bool := (List.range n).all fun i => subN (r.getD i 0) (s.getD i 0)
def subR (r s : List Nat) : Bool := subTo r s 8
theorem subTo_succ (r s : List Nat) (n : Nat) : subTo r s (n + 1) = (subTo r s n && subN (r.getD n 0) (s.getD n 0)) := by
 unfold subTo
 rw [List.range_succ, List.all_append]; simp
theorem subTo_no {r s : List Nat} {n m : Nat} (h : subN (r.getD n 0) (s.getD n 0) = false) (hn : n < m) : subTo r s m = false := by
 rw [Bool.eq_false_iff]
 intro q
 have := List.all_eq_true.1 q n (List.mem_range.2 hn)
 rw [h] at this; cases this
theorem subR_iff {r s : List Nat} (hr : Rel8 r) (hs : Rel8 s) : subR r s = true ↔ SubR r s := by
 unfold subR subTo SubR
 rw [List.all_eq_true]
 constructor
 · intro h i k hi q
   exact (subN_iff (hr.lt i) (hs.lt i)).1 (h i (List.mem_range.2 hi)) k q
 · intro h i hi
   exact (subN_iff (hr.lt i) (hs.lt i)).2 fun k q => h i k (List.mem_range.1 hi) q

/-! arrays in memory -/
theorem mload_seg {P : Program} (w : World) (g o n : Nat) (ty : TypeId) (cur : List Value) (d : TypeDesc) (hg : ∀ (j : Nat) v, cur[j]? = some v → w.cell? ⟨g, o + j, none⟩ = some v)
  (hu : P.underlying ty = some d) (hd : (match d with | .struct _ | .array _ _ => true | _ => false) = true) (hi : (P.info? ty).map (·.size) = some n) (hn : cur.length = n) :
  (loadVar ty ⟨g, o, none⟩).run P w = .ok (.agg cur.toArray) w := by
 have hl := run_loadCells_list (P := P) w ⟨g, o, none⟩ cur (fun j v hj => by rw [addr_add]; exact hg j v hj)
 rw [hn] at hl
 cases hq : P.info? ty with
 | none => simp [hq] at hi
 | some i =>
  have hin : i.size = n := by simpa [hq] using hi
  cases d <;> simp at hd <;> simp [loadVar, isAgg, run_underlying hu, sizeOf, typeInfo, hq, hin, hl]
theorem wpStill_loadA {P : Program} {ops : Array Oper} {w : World} {Q : Act → Prop} {a : Act} {o : Oper} {rest : List Oper} (hgd : o.guard = none) (ty : TypeId) (x : Operand) (ho : o.op = .load ty x)
  (g off n : Nat) (hx : a.eval x = .pointer (some ⟨g, off, none⟩)) (cur : List Value) (d : TypeDesc) (hg : ∀ (j : Nat) v, cur[j]? = some v → w.cell? ⟨g, off + j, none⟩ = some v)
  (hu : P.underlying ty = some d) (hd : (match d with | .struct _ | .array _ _ => true | _ => false) = true) (hi : (P.info? ty).map (·.size) = some n) (hn : cur.length = n)
  (h : wpStill P ops w Q rest (a.put o.dst (.agg cur.toArray))) : wpStill P ops w Q (o :: rest) a := by
 have hw : Region.wanted o (yielded ops a.tmps) = true := by simp [Region.wanted, hgd]
 unfold wpStill
 rw [if_pos hw]
 unfold Oper.still execOp
 simp only [ho, hx, Instr.loadAt, Instr.sureAddr, Sem.run_bind, Sem.run_pure, Result.andThen_ok, mload_seg w g off n ty cur d hg hu hd hi hn]
 exact ⟨rfl, h⟩
theorem wpList_loadA {P : Program} {ops : Array Oper} {w : World} {Q : Exit → Act → World → Prop} {a : Act} {o : Oper} {rest : List Oper} (hgd : o.guard = none) (ty : TypeId) (x : Operand) (ho : o.op = .load ty x)
  (g off n : Nat) (hx : a.eval x = .pointer (some ⟨g, off, none⟩)) (cur : List Value) (d : TypeDesc) (hg : ∀ (j : Nat) v, cur[j]? = some v → w.cell? ⟨g, off + j, none⟩ = some v)
  (hu : P.underlying ty = some d) (hd : (match d with | .struct _ | .array _ _ => true | _ => false) = true) (hi : (P.info? ty).map (·.size) = some n) (hn : cur.length = n)
  (h : wpList P ops Q rest (a.put o.dst (.agg cur.toArray)) w) : wpList P ops Q (o :: rest) a w := by
 refine wpList_plain hgd fun K hK => ?_
 unfold Oper.wp execOp
 simp only [ho, hx, Instr.loadAt, Instr.sureAddr, Sem.run_bind, Sem.run_pure, Result.andThen_ok, mload_seg w g off n ty cur d hg hu hd hi hn]
 exact hK _ _ h
/-- 'copy(dst, src)' of numbers whose cells are known. -/
theorem wpList_copyA {P : Program} {w : World} {ops : Array Oper} {rest : List Oper} {o : Oper} {a : Act} {Q : Exit → Act → World → Prop} (hgd : o.guard = none) (d s : Operand) (dT sT : TypeId)
  (ho : o.op = .call { callee := .builtin .copy, args := #[d, s], argTypes := #[dT, sT] }) (elem : TypeId) (hu : P.underlying dT = some (.slice elem)) (hsz : (P.info? elem).map (·.size) = some 1)
  (g dLen dCap g2 o2 sCap : Nat) (cur src : List Value) (t : TypeId) (hd : a.eval d = .slice (some ⟨g, 0, none⟩) dLen dCap) (hs : a.eval s = .slice (some ⟨g2, o2, none⟩) src.length sCap)
  (hg : w.heap[g]? = some (.cells cur.toArray t (0, 0))) (hc : ∀ (j : Nat) v, src[j]? = some v → w.cell? ⟨g2, o2 + j, none⟩ = some v) (h1 : ∀ v ∈ src, v.oneCell' = true) (hle : src.length ≤ dLen) (hfit : src.length ≤ cur.length)
  (h : ∀ w', w' = w.setRow g (splice cur 0 src).toArray → wpList P ops Q rest (a.put o.dst (goInt src.length)) w') : wpList P ops Q (o :: rest) a w := by
 refine wpList_plain hgd fun K hK => ?_
 have hrun : (Builtin.copy_ #[dT, sT] o.type #[.slice (some ⟨g, 0, none⟩) dLen dCap, .slice (some ⟨g2, o2, none⟩) src.length sCap]).run P w = .ok (goInt src.length) (w.setRow g (splice cur 0 src).toArray) := by
  have hl := run_loadCells_list (P := P) w ⟨g2, o2, none⟩ src (fun j v hj => by rw [addr_add]; exact hc j v hj)
  have hst := run_storeCells_at P g 0 t src 0 cur.toArray w hg (by simpa using hfit) h1
  have hmin : Nat.min src.length dLen = src.length := Nat.min_eq_left hle
  cases hq : P.info? elem with
  | none => simp [hq] at hsz
  | some i =>
   have hi : i.size = 1 := by simpa [hq] using hsz
   simp only [Builtin.copy_, Builtin.lenOf, Builtin.firstCells, sizeOf, typeInfo]
   simp [run_underlying hu, hq, hi, hmin, hl, hst, splice]
 unfold Oper.wp
 simp only [execOp, ho, resolve, invoke, builtin]
 simp [hd, hs, hrun, Result.andThen]
 exact hK _ _ (h _ rfl)
/-! rows -/
abbrev BRow := Nat × List Nat
def BytesIn (w : World) (v : Value) (G : Nat → Prop) (l : List Nat) : Prop :=
 ∃ la cap, v = .slice la l.length cap ∧ l.length ≤ maxLen ∧ ∀ (j : Nat) x, l[j]? = some x → ∃ g o, la = some ⟨g, o, none⟩ ∧ G g ∧ w.cell? ⟨g, o + j, none⟩ = some (.int .u8 (x : Int)) ∧ x < 256
def MRowsAt (w : World) (v : Value) (G : Nat → Prop) (M : List BRow) : Prop :=
 ∃ la cap, v = .slice la M.length cap ∧ M.length ≤ maxLen ∧ ∀ (j : Nat) x, M[j]? = some x → ∃ g o sa sc, la = some ⟨g, o, none⟩ ∧ G g ∧ w.cell? ⟨g, o + j * 2, none⟩ = some (.int .u16 (x.1 : Int)) ∧ w.cell? ⟨g, o + j * 2 + 1, none⟩ = some (.slice sa x.2.length sc) ∧ BytesIn w (.slice sa x.2.length sc) G x.2 ∧ x.1 < 65536
theorem BytesIn.chg {S : Nat → Prop} {w w' : World} {v : Value} {G : Nat → Prop} {l : List Nat} (h : BytesIn w v G l) (hc : Chg S w w') (hs : ∀ k, G k → ¬ S k) : BytesIn w' v G l := by
 obtain ⟨la, cap, h1, h2, h3⟩ := h
 exact ⟨la, cap, h1, h2, fun j x hj => by obtain ⟨g, o, q1, q2, q3, q4⟩ := h3 j x hj; exact ⟨g, o, q1, q2, cell_chg hc (hs g q2) q3, q4⟩⟩
theorem MRowsAt.chg {S : Nat → Prop} {w w' : World} {v : Value} {G : Nat → Prop} {M : List BRow} (h : MRowsAt w v G M) (hc : Chg S w w') (hs : ∀ k, G k → ¬ S k) : MRowsAt w' v G M := by
 obtain ⟨la, cap, h1, h2, h3⟩ := h
 exact ⟨la, cap, h1, h2, fun j x hj => by obtain ⟨g, o, sa, sc, q1, q2, q3, q4, q5, q6⟩ := h3 j x hj; exact ⟨g, o, sa, sc, q1, q2, cell_chg hc (hs g q2) q3, cell_chg hc (hs g q2) q4, q5.chg hc hs, q6⟩⟩
/-- A row's bytes may be: one for each world, each of no more bits. -/
def byteB (N : Nat) (b : Nat) : Bool := decide (b / 2 ^ N = 0)
def mrowB (N : Int) (x : BRow) : Bool := decide ((x.2.length : Int) = N) && x.2.all (byteB N.toNat)
def modB (N : Int) (M : List BRow) : Bool := decide (1 ≤ N ∧ N ≤ 8) && M.all (mrowB N)
def pad8 (l : List Nat) : List Nat := (List.range 8).map fun i => l.getD i 0
/-- What a model tells of an atom: the last row's relation. -/
def modF (M : List BRow) : Nat → List Nat := M.foldl (fun f x a => if a = x.1 then pad8 x.2 else f a) fun _ => List.replicate 8 0
theorem modF_snoc {M : List BRow} {k : Nat} {x : BRow} (h : M[k]? = some x) : modF (M.take (k + 1)) = fun a => if a = x.1 then pad8 x.2 else modF (M.take k) a := by
 unfold modF
 rw [List.take_add_one, h, List.foldl_append]; rfl
theorem pad8_rel {l : List Nat} (h : ∀ x ∈ l, x < 256) : Rel8 (pad8 l) := Rel8.map _ fun i => by
 rw [List.getD_eq_getElem?_getD]
 cases hq : l[i]? with
 | none => show (0 : Nat) < 256; omega
 | some x => exact h x (List.mem_of_getElem? hq)
def RowsLt (M : List BRow) : Prop := ∀ x ∈ M, ∀ y ∈ x.2, y < 256
theorem modF_rel {M : List BRow} (h : RowsLt M) (a : Nat) : Rel8 (modF M a) := by
 have key : ∀ (M : List BRow) (f : Nat → List Nat), RowsLt M → (∀ a, Rel8 (f a)) → ∀ a, Rel8 (M.foldl (fun f x a => if a = x.1 then pad8 x.2 else f a) f a) := by
  intro M
  induction M with
  | nil => intro f _ hf a; exact hf a
  | cons x M ih =>
   intro f h hf a
   refine ih _ (fun y hy => h y (List.mem_cons_of_mem _ hy)) (fun b => ?_) a
   show Rel8 (if b = x.1 then pad8 x.2 else f b)
   split
   · exact pad8_rel (h x (by simp))
   · exact hf b
 exact key M _ h (fun _ => Rel8.zero) a
theorem relA_rel {f : Nat → List Nat} (hf : ∀ a, Rel8 (f a)) : ∀ (l : List Nat), l ≠ [] → Rel8 (relA f l)
 | [], h => absurd rfl h
 | a :: l, _ => by
  have key : ∀ (l : List Nat) (r : List Nat), Rel8 r → Rel8 (relGo f r l) := by
   intro l
   induction l with
   | nil => intro r hr; exact hr
   | cons x l ih => intro r hr; exact ih _ (hf x).then
  exact key l _ (hf a)
theorem relS_rel {f : Nat → List Nat} (hf : ∀ a, Rel8 (f a)) {l : List ByteArray} (h : ∀ w ∈ l, mayB w.data.toList = true) : Rel8 (relS f l) := by
 have key : ∀ (l : List ByteArray) (r : List Nat), (∀ w ∈ l, mayB w.data.toList = true) → Rel8 r → Rel8 (l.foldl (fun r w => orR r (relW f w.data.toList)) r) := by
  intro l
  induction l with
  | nil => intro r _ hr; exact hr
  | cons x l ih => intro r h hr; exact ih _ (fun w hw => h w (List.mem_cons_of_mem _ hw)) (hr.or (relA_rel hf _ (atoms_ne (h x (by simp)))))
 exact key l _ h Rel8.zero
end Go.Proofs.YthdfplafihmejaaGreat

namespace Go.Proofs.YthdfplafihmejaaGreat
open Go.RowKit Go.Maps

def relB (w : World) (b : Nat) (r : List Nat) : Prop := w.heap[b]? = some (.cells (u8L r).toArray 120 (0, 0))
theorem relB_cell {w : World} {b i : Nat} {r : List Nat} (h : relB w b r) (hi : i < r.length) : w.cell? ⟨b, i, none⟩ = some (.int .u8 (r.getD i 0 : Nat)) := cell_of h (by rw [List.getElem?_toArray]; exact u8L_get hi)
theorem u8L_set (r : List Nat) (i n : Nat) : (u8L r).set i (.int .u8 (n : Int)) = u8L (r.set i n) := by unfold u8L; rw [List.map_set]
theorem relB_set {w : World} {b : Nat} {r : List Nat} (h : relB w b r) (i n : Nat) : relB (w.setCell ⟨b, i, none⟩ (.int .u8 (n : Int))) b (r.set i n) := by
 unfold relB
 rw [obj_setCell h, ← u8L_set]; simp
def thenX (r s : List Nat) (i acc : Nat) : List Nat := (List.range 8).map fun k => if k < i then rowT s (r.getD k 0) 8 else if k = i then acc else 0
theorem thenX_len (r s : List Nat) (i acc : Nat) : (thenX r s i acc).length = 8 := by unfold thenX; rw [List.length_map, List.length_range]
theorem thenX_get (r s : List Nat) {i : Nat} (acc : Nat) (hi : i < 8) : (thenX r s i acc).getD i 0 = acc := by
 unfold thenX
 rw [map8 _ hi, if_neg (by omega), if_pos rfl]
theorem list8 {l m : List Nat} (hl : l.length = 8) (hm : m.length = 8) (h : ∀ k, k < 8 → l.getD k 0 = m.getD k 0) : l = m := by
 apply List.ext_getElem?
 intro k
 by_cases hk : k < 8
 · have := h k hk
   rw [List.getD_eq_getElem?_getD, List.getD_eq_getElem?_getD, List.getElem?_eq_getElem (by omega), List.getElem?_eq_getElem (by omega)] at this
   rw [List.getElem?_eq_getElem (by omega), List.getElem?_eq_getElem (by omega)]
   exact congrArg some this
 · rw [List.getElem?_eq_none (by omega), List.getElem?_eq_none (by omega)]
theorem thenX_set (r s : List Nat) (i a b : Nat) : (thenX r s i a).set i b = thenX r s i b := by
 refine list8 (by rw [List.length_set, thenX_len]) (thenX_len _ _ _ _) fun k hk => ?_
 rw [List.getD_eq_getElem?_getD, List.getElem?_set, thenX_len]
 by_cases e : i = k
 · subst e
   rw [if_pos rfl, if_pos hk, thenX_get r s b hk]; rfl
 · rw [if_neg e]
   unfold thenX
   rw [map8 _ hk, ← List.getD_eq_getElem?_getD, map8 _ hk, if_neg (show ¬ k = i from fun q => e q.symm), if_neg (show ¬ k = i from fun q => e q.symm)]
theorem thenX_next (r s : List Nat) (i : Nat) : thenX r s i (rowT s (r.getD i 0) 8) = thenX r s (i + 1) 0 := by
 refine list8 (thenX_len _ _ _ _) (thenX_len _ _ _ _) fun k hk => ?_
 unfold thenX
 rw [map8 _ hk, map8 _ hk]
 by_cases h : k < i
 · rw [if_pos h, if_pos (by omega)]
 · by_cases e : k = i
   · rw [if_neg h, if_pos e, if_pos (by omega), e]
   · rw [if_neg h, if_neg e, if_neg (by omega)]; split <;> rfl
theorem thenX_done (r s : List Nat) : thenX r s 8 0 = thenB r s := by
 refine list8 (thenX_len _ _ _ _) (by unfold thenB; rw [List.length_map, List.length_range]) fun k hk => ?_
 unfold thenX thenB
 rw [map8 _ hk, map8 _ hk, if_pos hk]
theorem u8L_one (r : List Nat) : ∀ v ∈ u8L r, v.oneCell' = true := by
 intro v hv
 unfold u8L at hv
 obtain ⟨n, _, rfl⟩ := List.mem_map.1 hv; rfl
theorem u8L_len (r : List Nat) : (u8L r).length = r.length := by unfold u8L; rw [List.length_map]
theorem relB_frozen {w : World} {b : Nat} {r : List Nat} (h : relB w b r) (i : Nat) : w.frozen? ⟨b, i, none⟩ = false := frozen_of h
theorem boxes4 (w : World) (A B C D : Obj) : let W := (((w.alloc A).alloc B).alloc C).alloc D
  W.heap[w.heap.size]? = some A ∧ W.heap[w.heap.size + 1]? = some B ∧ W.heap[w.heap.size + 1 + 1]? = some C ∧ W.heap[w.heap.size + 1 + 1 + 1]? = some D ∧ Chg (fun _ => False) w W := by
 have h2 := obj_alloc_new (w.alloc A) B
 have h3 := obj_alloc_new ((w.alloc A).alloc B) C
 have h4 := obj_alloc_new (((w.alloc A).alloc B).alloc C) D
 rw [World.size_alloc] at h2
 rw [World.size_alloc, World.size_alloc] at h3
 rw [World.size_alloc, World.size_alloc, World.size_alloc] at h4
 exact ⟨obj_alloc _ (obj_alloc _ (obj_alloc _ (obj_alloc_new _ _))), obj_alloc _ (obj_alloc _ h2), obj_alloc _ h3, h4, (((chg_alloc _ _ _).trans (chg_alloc _ _ _)).trans (chg_alloc _ _ _)).trans (chg_alloc _ _ _)⟩
/-- What changed is new. -/
theorem chg_new {w a b : World} {x : Nat} (h : Chg (fun _ => False) w a) (hx : w.heap.size ≤ x) (k : Chg (fun i => i = x) a b) : Chg (fun _ => False) w b := h.next k (fun i hi e => by omega)
def Cells8 (w : World) (b a0 a1 a2 a3 a4 a5 a6 a7 : Nat) : Prop :=
  w.cell? ⟨b, 0, none⟩ = some (.int .u8 (a0 : Int)) ∧ w.cell? ⟨b, 1, none⟩ = some (.int .u8 (a1 : Int)) ∧ w.cell? ⟨b, 2, none⟩ = some (.int .u8 (a2 : Int)) ∧ w.cell? ⟨b, 3, none⟩ = some (.int .u8 (a3 : Int)) ∧ w.cell? ⟨b, 4, none⟩ = some (.int .u8 (a4 : Int)) ∧ w.cell? ⟨b, 5, none⟩ = some (.int .u8 (a5 : Int)) ∧ w.cell? ⟨b, 6, none⟩ = some (.int .u8 (a6 : Int)) ∧ w.cell? ⟨b, 7, none⟩ = some (.int .u8 (a7 : Int))
theorem rel_cells {w : World} {b : Nat} {a0 a1 a2 a3 a4 a5 a6 a7 : Nat} (h : relB w b [a0, a1, a2, a3, a4, a5, a6, a7]) : Cells8 w b a0 a1 a2 a3 a4 a5 a6 a7 :=
 ⟨cell_of h rfl, cell_of h rfl, cell_of h rfl, cell_of h rfl, cell_of h rfl, cell_of h rfl, cell_of h rfl, cell_of h rfl⟩
theorem chg_set8 {S : Nat → Prop} {w a : World} {b : Nat} {v0 v1 v2 v3 v4 v5 v6 v7 : Value} (h : Chg S w a) (q : b < w.heap.size → S b) :
  Chg S w ((((((((a.setCell ⟨b, 0, none⟩ v0).setCell ⟨b, 1, none⟩ v1).setCell ⟨b, 2, none⟩ v2).setCell ⟨b, 3, none⟩ v3).setCell ⟨b, 4, none⟩ v4).setCell ⟨b, 5, none⟩ v5).setCell ⟨b, 6, none⟩ v6).setCell ⟨b, 7, none⟩ v7) :=
 (((((((h.setCell q _).setCell q _).setCell q _).setCell q _).setCell q _).setCell q _).setCell q _).setCell q _
theorem set8_rel {a : World} {b o0 o1 o2 o3 o4 o5 o6 o7 a0 a1 a2 a3 a4 a5 a6 a7 : Nat} (h : relB a b [o0, o1, o2, o3, o4, o5, o6, o7]) : relB ((((((((a.setCell ⟨b, 0, none⟩ (.int .u8 (a0 : Int))).setCell ⟨b, 1, none⟩ (.int .u8 (a1 : Int))).setCell ⟨b, 2, none⟩ (.int .u8 (a2 : Int))).setCell ⟨b, 3, none⟩ (.int .u8 (a3 : Int))).setCell ⟨b, 4, none⟩ (.int .u8 (a4 : Int))).setCell ⟨b, 5, none⟩ (.int .u8 (a5 : Int))).setCell ⟨b, 6, none⟩ (.int .u8 (a6 : Int))).setCell ⟨b, 7, none⟩ (.int .u8 (a7 : Int))) b [a0, a1, a2, a3, a4, a5, a6, a7] :=
 relB_set (relB_set (relB_set (relB_set (relB_set (relB_set (relB_set (relB_set h 0 a0) 1 a1) 2 a2) 3 a3) 4 a4) 5 a5) 6 a6) 7 a7
set_option maxHeartbeats 4000000 in
set_option maxRecDepth 100000 in
theorem mthen (w : World) (r s : List Nat) (hr : Rel8 r) (hs : Rel8 s) : Calls Tryz.prog 86 #[relV r, relV s] w fun e w' => e = .returned (relV (thenB r s)) ∧ Chg (fun _ => False) w w' := by
 have RL := Lib.hid hr
 have SL := Lib.hid hs
 obtain ⟨B0, B1, B2, B3, kb⟩ := boxes4 w (.cells (u8L r).toArray 120) (.cells (u8L s).toArray 120) (.cells #[.int .u8 0, .int .u8 0, .int .u8 0, .int .u8 0, .int .u8 0, .int .u8 0, .int .u8 0, .int .u8 0] 120) (.cells #[.int .u8 0, .int .u8 0, .int .u8 0, .int .u8 0, .int .u8 0, .int .u8 0, .int .u8 0, .int .u8 0] 120)
 have RB := Lib.hid B0
 have SB := Lib.hid B1
 have ZB := Lib.hid B2
 have XB := Lib.hid (show relB _ (w.heap.size + 1 + 1 + 1) (thenX r s 0 0) from B3)
 have KB := Lib.hid kb
 clear hr hs B0 B1 B2 B3 kb
 unfold relV
 go_enter Tryz.func86, Tryz.ntmps86
 go_wp2_with fail
 generalize (((w.alloc (.cells (u8L r).toArray 120)).alloc (.cells (u8L s).toArray 120)).alloc (.cells #[.int .u8 0, .int .u8 0, .int .u8 0, .int .u8 0, .int .u8 0, .int .u8 0, .int .u8 0, .int .u8 0] 120)).alloc (.cells #[.int .u8 0, .int .u8 0, .int .u8 0, .int .u8 0, .int .u8 0, .int .u8 0, .int .u8 0, .int .u8 0] 120) = w4 at *
 obtain ⟨b, hb⟩ : ∃ b, b = w.heap.size := ⟨_, rfl⟩
 rw [← hb] at RB SB ZB XB
 rw [← hb]
 have hbl : w.heap.size ≤ b + 1 + 1 + 1 := by omega
 have hbm : w.heap.size ≤ b + 1 + 1 := by omega
 clear hb
 go_loopw [8] (fun iv wr => ∃ i : Nat, i ≤ 8 ∧ iv = .int .i64 i ∧ Hid (relB wr (b + 1 + 1 + 1) (thenX r s i 0) ∧ Chg (fun k => k = b + 1 + 1 + 1) w4 wr)) (fun iv _ => 8 - (intOf iv).toNat)
 case atStart => exact ⟨0, by omega, rfl, Lib.hid ⟨XB.out, Chg.refl _ _⟩⟩
 case round =>
 obtain ⟨i, hi, rfl, HI⟩ := hrel
 by_cases hlt : i < 8
 rotate_left
 · obtain rfl : i = 8 := by omega
   obtain ⟨hx, hk⟩ := HI.out
   rw [thenX_done] at hx
   have TR := (SL.out.then (r := r))
   obtain ⟨a0, a1, a2, a3, a4, a5, a6, a7, e8⟩ := rel8_lit TR
   rw [e8] at hx
   have E8 := Lib.hid e8
   have OB := Lib.hid (hk.obj (by omega) ZB.out)
   have KF := Lib.hid (chg_new KB.out hbl hk)
   obtain ⟨c0, c1, c2, c3, c4, c5, c6, c7⟩ := rel_cells hx
   obtain ⟨z0, z1, z2, z3, z4, z5, z6, z7⟩ := rel_cells (a0 := 0) (a1 := 0) (a2 := 0) (a3 := 0) (a4 := 0) (a5 := 0) (a6 := 0) (a7 := 0) OB.out
   have fz : ∀ i, wr.frozen? ⟨b + 1 + 1, i, none⟩ = false := fun i => relB_frozen (r := [0, 0, 0, 0, 0, 0, 0, 0]) OB.out i
   clear HI hx hk TR e8 RL SL
   go_wp2
   obtain ⟨f0, f1, f2, f3, f4, f5, f6, f7⟩ := rel_cells (set8_rel (o0 := 0) (o1 := 0) (o2 := 0) (o3 := 0) (o4 := 0) (o5 := 0) (o6 := 0) (o7 := 0) (a0 := a0) (a1 := a1) (a2 := a2) (a3 := a3) (a4 := a4) (a5 := a5) (a6 := a6) (a7 := a7) OB.out)
   have K8 := chg_set8 (v0 := .int .u8 (a0 : Int)) (v1 := .int .u8 (a1 : Int)) (v2 := .int .u8 (a2 : Int)) (v3 := .int .u8 (a3 : Int)) (v4 := .int .u8 (a4 : Int)) (v5 := .int .u8 (a5 : Int)) (v6 := .int .u8 (a6 : Int)) (v7 := .int .u8 (a7 : Int)) KF.out (fun h => absurd h (Nat.not_lt.2 hbm))
   clear OB z0 z1 z2 z3 z4 z5 z6 z7 c0 c1 c2 c3 c4 c5 c6 c7 fz
   generalize World.setCell _ ⟨b + 1 + 1, 7, none⟩ _ = wf at *
   refine bodyPost_ret (v := .agg #[.int .u8 (a0 : Int), .int .u8 (a1 : Int), .int .u8 (a2 : Int), .int .u8 (a3 : Int), .int .u8 (a4 : Int), .int .u8 (a5 : Int), .int .u8 (a6 : Int), .int .u8 (a7 : Int)]) ?_ rfl ?_
   · simp [results, Tryz.results86, go_sem, f0, f1, f2, f3, f4, f5, f6, f7]
   · exact ⟨by rw [E8.out]; rfl, K8⟩
 have h8 : (i : Int) < 8 := by omega
 have g8 : decide ((i : Int) < 8) = true := decide_eq_true h8
 have KW := Lib.hid HI.out.2
 have XI := Lib.hid HI.out.1
 clear HI
 go_wp2_with fail
 go_loopw [11] (fun jv wq => ∃ j : Nat, j ≤ 8 ∧ jv = .int .i64 j ∧ Hid (relB wq (b + 1 + 1 + 1) (thenX r s i (rowT s (r.getD i 0) j)) ∧ Chg (fun k => k = b + 1 + 1 + 1) w4 wq)) (fun jv _ => 8 - (intOf jv).toNat)
 case atStart => exact ⟨0, by omega, rfl, Lib.hid ⟨XI.out, KW.out⟩⟩
 case round =>
 obtain ⟨j, hj, rfl, HJ⟩ := hrel
 by_cases hjl : j < 8
 rotate_left
 · obtain rfl : j = 8 := by omega
   obtain ⟨hx, hk⟩ := HJ.out
   rw [thenX_next] at hx
   have HX := Lib.hid hx
   have HK := Lib.hid hk
   clear HJ hx hk
   go_wp2
   go_roundw
   case rel => exact ⟨i + 1, by omega, by go_num, Lib.hid ⟨HX.out, HK.out⟩⟩
   case measure => simp [intOf]; omega
 have h9 : (j : Int) < 8 := by omega
 have g9 : decide ((j : Int) < 8) = true := decide_eq_true h9
 have HX := Lib.hid HJ.out.1
 have HK := Lib.hid HJ.out.2
 have hri := RL.out.lt i
 have hsj := SL.out.lt j
 have hac := rowT_lt SL.out.lt (r.getD i 0) j
 have cr := relB_cell (HK.out.obj (by omega) RB.out) (i := i) (by rw [RL.out.len]; exact hlt)
 have cs := relB_cell (HK.out.obj (by omega) SB.out) (i := j) (by rw [SL.out.len]; exact hjl)
 have cx := relB_cell HX.out (i := i) (by rw [thenX_len]; exact hlt)
 rw [thenX_get _ _ _ hlt] at cx
 have SN := Lib.hid (rowT_succ s (r.getD i 0) j)
 have BT := bit_u8 hri j
 generalize r.getD i 0 = ri at *
 generalize s.getD j 0 = sj at *
 generalize rowT s ri j = ac at *
 cases hbit : ri.testBit j with
 | false =>
  rw [hbit] at BT
  rw [hbit, if_neg (by decide)] at SN
  clear HJ hbit
  rw [if_neg (by decide)] at BT
  go_wp2
  go_roundw
  case rel => exact ⟨j + 1, by omega, by go_num, Lib.hid ⟨by rw [SN.out]; exact HX.out, HK.out⟩⟩
  case measure => simp [intOf]; omega
 | true =>
  rw [hbit] at BT
  rw [hbit, if_pos rfl] at SN
  rw [if_pos rfl] at BT
  clear HJ hbit
  have OR := u8_or_nat ac sj hac hsj
  go_wp2_with fail
  refine wp_still_tail_drew 8 (by kernel_rfl) (by kernel_rfl) ?_
  simp only [List.take_succ_cons, List.take_zero, List.drop_succ_cons, List.drop_zero]
  repeat still_step
  refine wpStill_nil ?_
  have fx : (wr.drew).frozen? ⟨b + 1 + 1 + 1, i, none⟩ = false := relB_frozen (HX.out) i
  have HX2 := Lib.hid (show relB ((wr.setCell ⟨b + 1 + 1 + 1, i, none⟩ (.int .u8 ((ac ||| sj : Nat) : Int))).drew) _ _ from relB_set HX.out i (ac ||| sj))
  have HK2 := Lib.hid (show Chg (fun k => k = b + 1 + 1 + 1) w4 ((wr.setCell ⟨b + 1 + 1 + 1, i, none⟩ (.int .u8 ((ac ||| sj : Nat) : Int))).drew) from (HK.out.setCell (fun _ => rfl) _).drew)
  clear HX HK
  rw [thenX_set] at HX2
  go_wp2
  go_roundw
  case rel => exact ⟨j + 1, by omega, by go_num, Lib.hid ⟨by rw [SN.out]; exact HX2.out, HK2.out⟩⟩
  case measure => simp [intOf]; omega
theorem boxes3 (w : World) (A B C : Obj) : let W := ((w.alloc A).alloc B).alloc C
  W.heap[w.heap.size]? = some A ∧ W.heap[w.heap.size + 1]? = some B ∧ W.heap[w.heap.size + 1 + 1]? = some C ∧ Chg (fun _ => False) w W := by
 have h2 := obj_alloc_new (w.alloc A) B
 have h3 := obj_alloc_new ((w.alloc A).alloc B) C
 rw [World.size_alloc] at h2
 rw [World.size_alloc, World.size_alloc] at h3
 exact ⟨obj_alloc _ (obj_alloc _ (obj_alloc_new _ _)), obj_alloc _ h2, h3, ((chg_alloc _ _ _).trans (chg_alloc _ _ _)).trans (chg_alloc _ _ _)⟩
def orX (r s : List Nat) (i : Nat) : List Nat := (List.range 8).map fun k => if k < i then r.getD k 0 ||| s.getD k 0 else r.getD k 0
theorem orX_len (r s : List Nat) (i : Nat) : (orX r s i).length = 8 := by unfold orX; rw [List.length_map, List.length_range]
theorem orX_get (r s : List Nat) {i : Nat} (hi : i < 8) : (orX r s i).getD i 0 = r.getD i 0 := by
 unfold orX
 rw [map8 _ hi, if_neg (by omega)]
theorem orX_zero {r : List Nat} (s : List Nat) (h : r.length = 8) : orX r s 0 = r := by
 refine list8 (orX_len _ _ _) h fun k hk => ?_
 unfold orX
 rw [map8 _ hk, if_neg (by omega)]
theorem orX_done (r s : List Nat) : orX r s 8 = orR r s := by
 refine list8 (orX_len _ _ _) (by unfold orR; rw [List.length_map, List.length_range]) fun k hk => ?_
 unfold orX orR
 rw [map8 _ hk, map8 _ hk, if_pos hk]
theorem orX_next (r s : List Nat) (i : Nat) : (orX r s i).set i (r.getD i 0 ||| s.getD i 0) = orX r s (i + 1) := by
 refine list8 (by rw [List.length_set, orX_len]) (orX_len _ _ _) fun k hk => ?_
 rw [List.getD_eq_getElem?_getD, List.getElem?_set, orX_len]
 by_cases e : i = k
 · subst e
   rw [if_pos rfl, if_pos hk]
   unfold orX
   rw [map8 _ hk, if_pos (by omega)]; rfl
 · rw [if_neg e, ← List.getD_eq_getElem?_getD]
   unfold orX
   rw [map8 _ hk, map8 _ hk]
   by_cases q : k < i
   · rw [if_pos q, if_pos (by omega)]
   · rw [if_neg q, if_neg (by omega)]
set_option maxHeartbeats 4000000 in
set_option maxRecDepth 100000 in
theorem mor (w : World) (r s : List Nat) (hr : Rel8 r) (hs : Rel8 s) : Calls Tryz.prog 88 #[relV r, relV s] w fun e w' => e = .returned (relV (orR r s)) ∧ Chg (fun _ => False) w w' := by
 have RL := Lib.hid hr
 have SL := Lib.hid hs
 obtain ⟨B0, B1, B2, kb⟩ := boxes3 w (.cells (u8L r).toArray 120) (.cells (u8L s).toArray 120) (.cells #[.int .u8 0, .int .u8 0, .int .u8 0, .int .u8 0, .int .u8 0, .int .u8 0, .int .u8 0, .int .u8 0] 120)
 have RB := Lib.hid (show relB _ w.heap.size (orX r s 0) from by rw [orX_zero s hr.len]; exact B0)
 have SB := Lib.hid B1
 have ZB := Lib.hid B2
 have KB := Lib.hid kb
 clear hr hs B0 B1 B2 kb
 unfold relV
 go_enter Tryz.func88, Tryz.ntmps88
 go_wp2_with fail
 generalize ((w.alloc (.cells (u8L r).toArray 120)).alloc (.cells (u8L s).toArray 120)).alloc (.cells #[.int .u8 0, .int .u8 0, .int .u8 0, .int .u8 0, .int .u8 0, .int .u8 0, .int .u8 0, .int .u8 0] 120) = w4 at *
 obtain ⟨b, hb⟩ : ∃ b, b = w.heap.size := ⟨_, rfl⟩
 rw [← hb] at RB SB ZB
 rw [← hb]
 have hbl : w.heap.size ≤ b := by omega
 have hbm : w.heap.size ≤ b + 1 + 1 := by omega
 clear hb
 go_loopw [6] (fun iv wr => ∃ i : Nat, i ≤ 8 ∧ iv = .int .i64 i ∧ Hid (relB wr b (orX r s i) ∧ Chg (fun k => k = b) w4 wr)) (fun iv _ => 8 - (intOf iv).toNat)
 case atStart => exact ⟨0, by omega, rfl, Lib.hid ⟨RB.out, Chg.refl _ _⟩⟩
 case round =>
 obtain ⟨i, hi, rfl, HI⟩ := hrel
 by_cases hlt : i < 8
 rotate_left
 · obtain rfl : i = 8 := by omega
   obtain ⟨hx, hk⟩ := HI.out
   rw [orX_done] at hx
   have TR := RL.out.or SL.out
   obtain ⟨a0, a1, a2, a3, a4, a5, a6, a7, e8⟩ := rel8_lit TR
   rw [e8] at hx
   have E8 := Lib.hid e8
   have OB := Lib.hid (hk.obj (by omega) ZB.out)
   have KF := Lib.hid (chg_new KB.out hbl hk)
   obtain ⟨c0, c1, c2, c3, c4, c5, c6, c7⟩ := rel_cells hx
   obtain ⟨z0, z1, z2, z3, z4, z5, z6, z7⟩ := rel_cells (a0 := 0) (a1 := 0) (a2 := 0) (a3 := 0) (a4 := 0) (a5 := 0) (a6 := 0) (a7 := 0) OB.out
   have fz : ∀ i, wr.frozen? ⟨b + 1 + 1, i, none⟩ = false := fun i => relB_frozen (r := [0, 0, 0, 0, 0, 0, 0, 0]) OB.out i
   clear HI hx hk TR e8 RL SL
   go_wp2
   obtain ⟨f0, f1, f2, f3, f4, f5, f6, f7⟩ := rel_cells (set8_rel (o0 := 0) (o1 := 0) (o2 := 0) (o3 := 0) (o4 := 0) (o5 := 0) (o6 := 0) (o7 := 0) (a0 := a0) (a1 := a1) (a2 := a2) (a3 := a3) (a4 := a4) (a5 := a5) (a6 := a6) (a7 := a7) OB.out)
   have K8 := chg_set8 (v0 := .int .u8 (a0 : Int)) (v1 := .int .u8 (a1 : Int)) (v2 := .int .u8 (a2 : Int)) (v3 := .int .u8 (a3 : Int)) (v4 := .int .u8 (a4 : Int)) (v5 := .int .u8 (a5 : Int)) (v6 := .int .u8 (a6 : Int)) (v7 := .int .u8 (a7 : Int)) KF.out (fun h => absurd h (Nat.not_lt.2 hbm))
   clear OB z0 z1 z2 z3 z4 z5 z6 z7 c0 c1 c2 c3 c4 c5 c6 c7 fz
   generalize World.setCell _ ⟨b + 1 + 1, 7, none⟩ _ = wf at *
   refine bodyPost_ret (v := .agg #[.int .u8 (a0 : Int), .int .u8 (a1 : Int), .int .u8 (a2 : Int), .int .u8 (a3 : Int), .int .u8 (a4 : Int), .int .u8 (a5 : Int), .int .u8 (a6 : Int), .int .u8 (a7 : Int)]) ?_ rfl ?_
   · simp [results, Tryz.results88, go_sem, f0, f1, f2, f3, f4, f5, f6, f7]
   · exact ⟨by rw [E8.out]; rfl, K8⟩
 have h8 : (i : Int) < 8 := by omega
 have g8 : decide ((i : Int) < 8) = true := decide_eq_true h8
 have HX := Lib.hid HI.out.1
 have HK := Lib.hid HI.out.2
 have hri := RL.out.lt i
 have hsi := SL.out.lt i
 have cs := relB_cell (HK.out.obj (by omega) SB.out) (i := i) (by rw [SL.out.len]; exact hlt)
 have cx := relB_cell HX.out (i := i) (by rw [orX_len]; exact hlt)
 rw [orX_get _ _ hlt] at cx
 have NX := Lib.hid (orX_next r s i)
 generalize r.getD i 0 = ri at *
 generalize s.getD i 0 = si at *
 have OR := u8_or_nat ri si hri hsi
 have fx : wr.frozen? ⟨b, i, none⟩ = false := relB_frozen HX.out i
 have HX2 := Lib.hid (show relB ((wr.setCell ⟨b, i, none⟩ (.int .u8 ((ri ||| si : Nat) : Int))).drew) _ _ from relB_set HX.out i (ri ||| si))
 have HK2 := Lib.hid (show Chg (fun k => k = b) w4 ((wr.setCell ⟨b, i, none⟩ (.int .u8 ((ri ||| si : Nat) : Int))).drew) from (HK.out.setCell (fun _ => rfl) _).drew)
 clear HX HK HI
 go_wp2_with fail
 refine wp_still_tail_drew 8 (by kernel_rfl) (by kernel_rfl) ?_
 simp only [List.take_succ_cons, List.take_zero, List.drop_succ_cons, List.drop_zero]
 repeat still_step
 refine wpStill_nil ?_
 rw [NX.out] at HX2
 go_wp2
 go_roundw
 case rel => exact ⟨i + 1, by omega, by go_num, Lib.hid ⟨HX2.out, HK2.out⟩⟩
 case measure => simp [intOf]; omega
set_option maxHeartbeats 4000000 in
set_option maxRecDepth 100000 in
theorem mwithin (w : World) (r s : List Nat) (hr : Rel8 r) (hs : Rel8 s) : Calls Tryz.prog 56 #[relV r, relV s] w fun e w' => e = .returned (.bool (subR r s)) ∧ Chg (fun _ => False) w w' := by
 have RL := Lib.hid hr
 have SL := Lib.hid hs
 have B1 := obj_alloc_new (w.alloc (.cells (u8L r).toArray 120)) (.cells (u8L s).toArray 120)
 rw [World.size_alloc] at B1
 have RB := Lib.hid (show relB ((w.alloc (.cells (u8L r).toArray 120)).alloc (.cells (u8L s).toArray 120)) w.heap.size r from obj_alloc _ (obj_alloc_new _ _))
 have SB := Lib.hid (show relB _ (w.heap.size + 1) s from B1)
 have KB := Lib.hid (((chg_alloc (fun _ => False) w (.cells (u8L r).toArray 120))).trans (chg_alloc _ _ (.cells (u8L s).toArray 120)))
 have RES := Lib.hid (show subR r s = subTo r s 8 from rfl)
 generalize subR r s = res at *
 clear hr hs B1
 unfold relV
 go_enter Tryz.func56, Tryz.ntmps56
 go_wp2_with fail
 generalize (w.alloc (.cells (u8L r).toArray 120)).alloc (.cells (u8L s).toArray 120) = w4 at *
 generalize w.heap.size = b at RB SB ⊢
 go_loopw [6] (fun iv wr => ∃ i : Nat, i ≤ 8 ∧ iv = .int .i64 i ∧ Hid (subTo r s i = true ∧ Chg (fun _ => False) w4 wr)) (fun iv _ => 8 - (intOf iv).toNat)
 case atStart => exact ⟨0, by omega, rfl, Lib.hid ⟨rfl, Chg.refl _ _⟩⟩
 case round =>
 obtain ⟨i, hi, rfl, HI⟩ := hrel
 by_cases hlt : i < 8
 rotate_left
 · obtain rfl : i = 8 := by omega
   obtain ⟨hx, hk⟩ := HI.out
   have RT : res = true := by rw [RES.out, hx]
   subst RT
   have KF := Lib.hid (KB.out.trans hk)
   clear HI hx hk
   go_wp2
   go_ret
   exact ⟨rfl, KF.out⟩
 have h8 : (i : Int) < 8 := by omega
 have g8 : decide ((i : Int) < 8) = true := decide_eq_true h8
 have HK := Lib.hid HI.out.2
 have hri := RL.out.lt i
 have hsi := SL.out.lt i
 have cs := relB_cell (HK.out.obj (fun e => e) SB.out) (i := i) (by rw [SL.out.len]; exact hlt)
 have cr := relB_cell (HK.out.obj (fun e => e) RB.out) (i := i) (by rw [RL.out.len]; exact hlt)
 have SU := sub_u8 hri hsi
 have NX := Lib.hid (show subTo r s (i + 1) = subN (r.getD i 0) (s.getD i 0) from by rw [subTo_succ, HI.out.1, Bool.true_and])
 have NO := Lib.hid (fun (h : subN (r.getD i 0) (s.getD i 0) = false) => subTo_no h hlt)
 generalize r.getD i 0 = ri at *
 generalize s.getD i 0 = si at *
 clear HI
 cases hsub : subN ri si with
 | true =>
  rw [hsub] at SU NX
  clear hsub NO
  go_wp2_with fail
  go_quiet (fail)
  rename_i nq
  have KQ := Lib.hid (show Chg (fun _ => False) w4 (wr.drewN nq) from HK.out.drewN nq)
  go_wp2
  go_roundw
  case rel => exact ⟨i + 1, by omega, by go_num, Lib.hid ⟨NX.out, KQ.out⟩⟩
  case measure => simp [intOf]; omega
 | false =>
  rw [hsub] at SU
  have RF : res = false := by rw [RES.out]; exact NO.out hsub
  subst RF
  clear hsub NO NX
  go_wp2_with fail
  go_quiet (fail)
  rename_i nq
  have KQ := Lib.hid (KB.out.trans (HK.out.drewN nq))
  go_wp2
  go_ret
  exact ⟨rfl, KQ.out⟩
end Go.Proofs.YthdfplafihmejaaGreat

namespace Go.Proofs.YthdfplafihmejaaGreat
open Go.RowKit Go.Maps

theorem mlook_eq {P : Program} {k e t : TypeId} {w : World} {b n : Nat} {f : Lit → Option Value} (h : MapV P k w b n f) (K : Keyed P k) (ht : P.underlying t = some (.map k e)) {z : Value} (hz : (zeroValue e).run P w = .ok z w) {key : Value} {kl : Lit} (hkey : keyOf P k key = some kl) {v : Value} (hv : (f kl).getD z = v) :
  (Instr.lookup t (.map (some b)) key false).run P w = .ok v w := by
 obtain ⟨D, h, _, q⟩ := h
 obtain ⟨v', ps, hrun, hv'⟩ := h.lookup K ht hz (show rawR z = some (.held z, []) from rfl) hkey
 rw [saysV_at q, hv] at hv'
 have hv' := rawR_inv hv'
 subst hv'
 exact hrun
theorem atomK : Keyed Tryz.prog 62 := int_keyed Tryz.underlying62
theorem atkey_of (a : Nat) (h : a < 65536) : keyOf Tryz.prog 62 (.int .u16 (a : Int)) = some (.int .u16 (a : Int)) :=
 keyOf_int_mk Tryz.underlying62 (by simp only [Lit.wf, Bool.and_eq_true, decide_eq_true_eq]; exact ⟨show (0 : Int) ≤ _ by omega, show _ ≤ (65535 : Int) by omega⟩)
def zeroR : List Nat := [0, 0, 0, 0, 0, 0, 0, 0]
theorem Tryz.zeroRel (w : World) : (zeroValue 120).run Tryz.prog w = .ok (relV zeroR) w := by kernel_rfl
/-- Block b is the map of what a model tells of atoms. -/
def AtomsAt (w : World) (b : Nat) (f : Nat → List Nat) : Prop := ∃ n g, MapV Tryz.prog 62 w b n g ∧ ∀ a : Nat, a < 65536 → (g (.int .u16 (a : Int))).getD (relV zeroR) = relV (f a)
theorem AtomsAt.chg {S : Nat → Prop} {w w' : World} {b : Nat} {f : Nat → List Nat} (h : AtomsAt w b f) (hc : Chg S w w') (hs : ¬ S b) : AtomsAt w' b f := by
 obtain ⟨n, g, h1, h2⟩ := h
 exact ⟨n, g, h1.chg hc hs, h2⟩
theorem AtomsAt.look {w : World} {b : Nat} {f : Nat → List Nat} (h : AtomsAt w b f) {a : Nat} (ha : a < 65536) : (Instr.lookup 117 (.map (some b)) (.int .u16 (a : Int)) false).run Tryz.prog w = .ok (relV (f a)) w := by
 obtain ⟨n, g, h1, h2⟩ := h
 exact mlook_eq h1 atomK Tryz.underlying117 (Tryz.zeroRel w) (atkey_of a ha) (h2 a ha)
theorem wat_z (w : World) (s : ByteArray) (k : Nat) (z : Int) (hz : z = (k : Nat)) (hs : s.size ≤ maxLen) (hk : k < alen s.data.toList) : Calls Tryz.prog 81 #[.string s, .int .i64 z] w fun e w' => e = .returned (.int .u16 (atomAt s.data.toList k : Nat)) ∧ Chg (fun _ => False) w w' := by
 subst hz; exact wat_in w s k hs hk
theorem relA_snoc (f : Nat → List Nat) {l : List Nat} (a : Nat) (h : l ≠ []) : relA f (l ++ [a]) = thenB (relA f l) (f a) := by
 match l, h with
 | b :: l, _ =>
  show relGo f (f b) (l ++ [a]) = _
  unfold relGo
  rw [List.foldl_append]; rfl
def wordTo (f : Nat → List Nat) (s : ByteArray) (i : Nat) : List Nat := relA f ((atoms s.data.toList).take i)
theorem wordTo_one (f : Nat → List Nat) {s : ByteArray} (h : 0 < alen s.data.toList) : wordTo f s 1 = f (atomAt s.data.toList 0) := by
 unfold wordTo
 rw [List.take_add_one, atoms_get _ h]; rfl
theorem wordTo_next (f : Nat → List Nat) {s : ByteArray} {i : Nat} (hi : 1 ≤ i) (h : i < alen s.data.toList) : wordTo f s (i + 1) = thenB (wordTo f s i) (f (atomAt s.data.toList i)) := by
 unfold wordTo
 rw [List.take_add_one, atoms_get _ h]
 refine relA_snoc f _ fun e => ?_
 have := congrArg List.length e
 rw [List.length_take, atoms_length] at this
 simp at this
 omega
theorem wordTo_all (f : Nat → List Nat) (s : ByteArray) : wordTo f s (alen s.data.toList) = relW f s.data.toList := by
 unfold wordTo relW
 rw [List.take_of_length_le (by rw [atoms_length]; exact Nat.le_refl _)]
theorem wordTo_rel {f : Nat → List Nat} (hf : ∀ a, Rel8 (f a)) {s : ByteArray} {i : Nat} (hi : 1 ≤ i) (h : 1 ≤ alen s.data.toList) : Rel8 (wordTo f s i) := relA_rel hf _ fun e => by
 have := congrArg List.length e
 rw [List.length_take, atoms_length] at this
 simp at this
 omega
theorem relV_lit (a0 a1 a2 a3 a4 a5 a6 a7 : Nat) : relV [a0, a1, a2, a3, a4, a5, a6, a7] = .agg #[.int .u8 (a0 : Int), .int .u8 (a1 : Int), .int .u8 (a2 : Int), .int .u8 (a3 : Int), .int .u8 (a4 : Int), .int .u8 (a5 : Int), .int .u8 (a6 : Int), .int .u8 (a7 : Int)] := rfl
set_option maxHeartbeats 4000000 in
set_option maxRecDepth 100000 in
theorem mword (w : World) (b : Nat) (f : Nat → List Nat) (s : ByteArray) (h : AtomsAt w b f) (hf : ∀ a, Rel8 (f a)) (hs : s.size ≤ maxLen) (hm : 1 ≤ alen s.data.toList) :
  Calls Tryz.prog 54 #[.map (some b), .string s] w fun e w' => e = .returned (relV (relW f s.data.toList)) ∧ Chg (fun _ => False) w w' := by
 have AA := Lib.hid (fun W (k : Chg (fun _ => False) w W) => h.chg k (fun e => e))
 have RF := Lib.hid hf
 have AT0 := Lib.hid (wat_z (w.alloc (.cells #[.int .u8 0, .int .u8 0, .int .u8 0, .int .u8 0, .int .u8 0, .int .u8 0, .int .u8 0, .int .u8 0] 120)) s 0 0 rfl hs hm)
 have AT := Lib.hid (fun W (k : Nat) (hk : k < alen s.data.toList) => wat_in W s k hs hk)
 have WL := Lib.hid (fun W => wlen_any W s hs)
 have Z0 := Lib.hid (obj_alloc_new w (.cells #[.int .u8 0, .int .u8 0, .int .u8 0, .int .u8 0, .int .u8 0, .int .u8 0, .int .u8 0, .int .u8 0] 120))
 have K0 := Lib.hid (chg_alloc (fun _ => False) w (.cells #[.int .u8 0, .int .u8 0, .int .u8 0, .int .u8 0, .int .u8 0, .int .u8 0, .int .u8 0, .int .u8 0] 120))
 have ONE := Lib.hid (wordTo_one f hm)
 have NXT := Lib.hid (fun i => @wordTo_next f s i)
 have ALL := Lib.hid (wordTo_all f s)
 have REL := Lib.hid (fun i (hi : 1 ≤ i) => wordTo_rel (s := s) hf hi hm)
 have ALT := Lib.hid (fun i => atomAt_lt s.data.toList i)
 have MAY := Lib.hid (show 1 ≤ alen s.data.toList from hm)
 have ALB := Lib.hid (show alen s.data.toList ≤ 5000000000000000000 from by unfold alen; rw [size_list]; unfold maxLen at hs; omega)
 clear h hf hs hm
 go_enter Tryz.func54, Tryz.ntmps54
 go_wp2_with fail
 generalize w.alloc (.cells #[.int .u8 0, .int .u8 0, .int .u8 0, .int .u8 0, .int .u8 0, .int .u8 0, .int .u8 0, .int .u8 0] 120) = w1 at *
 (with_reducible refine (AT0.out).mono ?_)
 rintro e w2 ⟨rfl, k2⟩
 have K2 := Lib.hid (K0.out.trans k2)
 have Z2 := Lib.hid (k2.obj (fun e => e) Z0.out)
 have LK := (AA.out w2 (K0.out.trans k2)).look (ALT.out 0)
 rw [← ONE.out] at LK
 obtain ⟨a0, a1, a2, a3, a4, a5, a6, a7, e8⟩ := rel8_lit (REL.out 1 (by omega))
 rw [e8, relV_lit] at LK
 have E8 := Lib.hid e8
 clear K0 Z0 AT0 ONE e8 k2
 generalize atomAt s.data.toList 0 = at0 at *
 go_wp2_with fail
 clear LK
 have BX := Lib.hid (show relB _ w2.heap.size (wordTo f s 1) from by rw [E8.out]; exact obj_alloc_new w2 (.cells #[.int .u8 (a0 : Int), .int .u8 (a1 : Int), .int .u8 (a2 : Int), .int .u8 (a3 : Int), .int .u8 (a4 : Int), .int .u8 (a5 : Int), .int .u8 (a6 : Int), .int .u8 (a7 : Int)] 120))
 have k3 := chg_alloc (fun _ => False) w2 (.cells #[.int .u8 (a0 : Int), .int .u8 (a1 : Int), .int .u8 (a2 : Int), .int .u8 (a3 : Int), .int .u8 (a4 : Int), .int .u8 (a5 : Int), .int .u8 (a6 : Int), .int .u8 (a7 : Int)] 120)
 have K3 := Lib.hid (K2.out.trans k3)
 have Z3 := Lib.hid (k3.obj (fun e => e) Z2.out)
 have hbz : w.heap.size < w2.heap.size := by have := lt_of_obj Z2.out; omega
 clear k3 K2 Z2 E8
 generalize w2.alloc (.cells #[.int .u8 (a0 : Int), .int .u8 (a1 : Int), .int .u8 (a2 : Int), .int .u8 (a3 : Int), .int .u8 (a4 : Int), .int .u8 (a5 : Int), .int .u8 (a6 : Int), .int .u8 (a7 : Int)] 120) = w3 at *
 generalize w2.heap.size = b5 at *
 generalize hb4 : w.heap.size = b4 at Z3 ⊢
 have hb4' : w.heap.size ≤ b4 := by omega
 have hb45 : b4 ≠ b5 := by omega
 have hb5 : w.heap.size ≤ b5 := by omega
 clear hb4 hbz
 go_loopw [6] (fun iv wr => ∃ i : Nat, 1 ≤ i ∧ i ≤ alen s.data.toList ∧ iv = .int .i64 i ∧ Hid (relB wr b5 (wordTo f s i) ∧ Chg (fun k => k = b5) w3 wr)) (fun iv _ => alen s.data.toList - (intOf iv).toNat)
 case atStart => exact ⟨1, Nat.le_refl _, MAY.out, rfl, Lib.hid ⟨BX.out, Chg.refl _ _⟩⟩
 case round =>
 obtain ⟨i, h1, hi, rfl, HI⟩ := hrel
 obtain ⟨a0, a1, a2, a3, a4, a5, a6, a7, e8⟩ := rel8_lit (REL.out i h1)
 have W1 := Lib.hid (WL.out wr)
 by_cases hlt : i < alen s.data.toList
 rotate_left
 · obtain rfl : i = alen s.data.toList := by omega
   have RA := Lib.hid ALL.out
   have hx := HI.out.1
   have hk := HI.out.2
   rw [e8] at hx RA
   have OB := Lib.hid (hk.obj (by omega) Z3.out)
   have KF := Lib.hid (chg_new K3.out hb5 hk)
   obtain ⟨c0, c1, c2, c3, c4, c5, c6, c7⟩ := rel_cells hx
   obtain ⟨z0, z1, z2, z3, z4, z5, z6, z7⟩ := rel_cells (a0 := 0) (a1 := 0) (a2 := 0) (a3 := 0) (a4 := 0) (a5 := 0) (a6 := 0) (a7 := 0) OB.out
   have fz : ∀ i, wr.frozen? ⟨b4, i, none⟩ = false := fun i => relB_frozen (r := [0, 0, 0, 0, 0, 0, 0, 0]) OB.out i
   clear HI hx hk e8 REL ALT AT
   generalize alen s.data.toList = n at *
   go_wp2_with fail
   (with_reducible refine (W1.out).mono ?_)
   rintro e w5 ⟨rfl, rfl⟩
   go_wp2
   obtain ⟨f0, f1, f2, f3, f4, f5, f6, f7⟩ := rel_cells (set8_rel (o0 := 0) (o1 := 0) (o2 := 0) (o3 := 0) (o4 := 0) (o5 := 0) (o6 := 0) (o7 := 0) (a0 := a0) (a1 := a1) (a2 := a2) (a3 := a3) (a4 := a4) (a5 := a5) (a6 := a6) (a7 := a7) OB.out)
   have K8 := chg_set8 (v0 := .int .u8 (a0 : Int)) (v1 := .int .u8 (a1 : Int)) (v2 := .int .u8 (a2 : Int)) (v3 := .int .u8 (a3 : Int)) (v4 := .int .u8 (a4 : Int)) (v5 := .int .u8 (a5 : Int)) (v6 := .int .u8 (a6 : Int)) (v7 := .int .u8 (a7 : Int)) KF.out (fun h => absurd h (Nat.not_lt.2 hb4'))
   clear OB z0 z1 z2 z3 z4 z5 z6 z7 c0 c1 c2 c3 c4 c5 c6 c7 fz
   generalize World.setCell _ ⟨b4, 7, none⟩ _ = wf at *
   refine bodyPost_ret (v := .agg #[.int .u8 (a0 : Int), .int .u8 (a1 : Int), .int .u8 (a2 : Int), .int .u8 (a3 : Int), .int .u8 (a4 : Int), .int .u8 (a5 : Int), .int .u8 (a6 : Int), .int .u8 (a7 : Int)]) ?_ rfl ?_
   · simp [results, Tryz.results54, go_sem, f0, f1, f2, f3, f4, f5, f6, f7]
   · exact ⟨by rw [← RA.out]; rfl, K8⟩
 have HX := Lib.hid (show relB wr b5 [a0, a1, a2, a3, a4, a5, a6, a7] from by rw [← e8]; exact HI.out.1)
 have HK := Lib.hid HI.out.2
 have KW := Lib.hid (chg_new K3.out hb5 HI.out.2)
 have SS := Lib.hid (fun W (k : Chg (fun _ => False) wr W) => (⟨rel_cells (k.obj (fun e => e) HX.out), (AA.out W (KW.out.trans k)).look (ALT.out i)⟩ : Cells8 W b5 a0 a1 a2 a3 a4 a5 a6 a7 ∧ _))
 have TH := Lib.hid (fun W => mthen W [a0, a1, a2, a3, a4, a5, a6, a7] (f (atomAt s.data.toList i)) (by rw [← e8]; exact REL.out i h1) (RF.out _))
 have NX := Lib.hid (NXT.out i h1 hlt)
 have AI := Lib.hid (fun W => AT.out W i hlt)
 have RN := REL.out (i + 1) (by omega)
 rw [e8] at NX
 rw [NX.out] at RN
 obtain ⟨d0, d1, d2, d3, d4, d5, d6, d7, e9⟩ := rel8_lit RN
 rw [e9] at TH NX
 obtain ⟨g0, g1, g2, g3, g4, g5, g6, g7, e10⟩ := rel8_lit (RF.out (atomAt s.data.toList i))
 rw [e10] at TH SS
 have hn : (i : Int) + 1 ≤ alen s.data.toList := by omega
 have hsz : alen s.data.toList ≤ 5000000000000000000 := ALB.out
 clear HI e8 e9 e10 RN NXT REL ALT AT ALL AA RF
 generalize atomAt s.data.toList i = ati at *
 generalize alen s.data.toList = n at *
 have hlt' : (i : Int) < n := by omega
 go_wp2_with fail
 (with_reducible refine (W1.out).mono ?_)
 rintro e w5 ⟨rfl, rfl⟩
 go_wp2_with fail
 refine wp_region_planL (N := 25) [.rd [0, 1, 2, 3], .ef 4, .rd [5], .ef 6, .ef 7] 7 (fun W => Cells8 W b5 a0 a1 a2 a3 a4 a5 a6 a7 ∧ (Instr.lookup 117 (.map (some b)) (.int .u16 (ati : Int)) false).run Tryz.prog W = .ok (relV [g0, g1, g2, g3, g4, g5, g6, g7]) W) (by kernel_rfl) (by kernel_rfl) (by kernel_rfl) (by kernel_rfl) (by kernel_rfl) (Nat.le_of_ble_eq_true rfl) (SS.out wr.drew (chg_drew _ _)) ?_
 refine planL_rd (A := ?A1) ?h1 ?h2
 case h1 =>
  rintro w' ⟨⟨z0, z1, z2, z3, z4, z5, z6, z7⟩, zl⟩ K hK
  simp only [opsAt, List.filterMap_cons, List.filterMap_nil, List.getElem?_toArray, List.getElem?_cons_succ, List.getElem?_cons_zero]
  repeat still_step
  refine wpStill_nil ?_
  exact hK
 have AD := Lib.hid (AI.out wr.drew)
 refine planL_ef rfl ?_
 go_wp2_with fail
 (with_reducible refine (AD.out).mono ?_)
 rintro e w7 ⟨rfl, k7⟩
 have K7 := Lib.hid ((chg_drew (fun _ => False) wr).trans k7)
 clear AD k7
 go_wp2_with fail
 refine ⟨.inr (SS.out w7 K7.out), ?_⟩
 refine planL_rd (A := ?A2) ?h3 ?h4
 case h3 =>
  rintro w' ⟨⟨z0, z1, z2, z3, z4, z5, z6, z7⟩, zl⟩ K hK
  rw [relV_lit] at zl
  simp only [opsAt, List.filterMap_cons, List.filterMap_nil, List.getElem?_toArray, List.getElem?_cons_succ, List.getElem?_cons_zero]
  repeat still_step
  refine wpStill_nil ?_
  exact hK
 have T7 := TH.out w7
 rw [relV_lit, relV_lit, relV_lit] at T7
 have T7 := Lib.hid T7
 refine planL_ef rfl ?_
 go_wp2_with fail
 (with_reducible refine (T7.out).mono ?_)
 rintro e w8 ⟨rfl, k8⟩
 have K8 := Lib.hid (K7.out.trans k8)
 clear T7 k8
 go_wp2_with fail
 refine ⟨.inr (SS.out w8 K8.out), ?_⟩
 have H8 := Lib.hid (K8.out.obj (fun e => e) HX.out)
 obtain ⟨c0, c1, c2, c3, c4, c5, c6, c7⟩ := rel_cells (w := w8) (b := b5) (a0 := a0) (a1 := a1) (a2 := a2) (a3 := a3) (a4 := a4) (a5 := a5) (a6 := a6) (a7 := a7) H8.out
 have fz : ∀ i, w8.frozen? ⟨b5, i, none⟩ = false := fun i => relB_frozen (r := [a0, a1, a2, a3, a4, a5, a6, a7]) H8.out i
 refine planL_ef rfl ?_
 go_wp2_with fail
 unfold PlanQ
 refine planL_nil ?_
 have H9 := Lib.hid (set8_rel (a0 := d0) (a1 := d1) (a2 := d2) (a3 := d3) (a4 := d4) (a5 := d5) (a6 := d6) (a7 := d7) H8.out)
 have K9 := chg_set8 (v0 := .int .u8 (d0 : Int)) (v1 := .int .u8 (d1 : Int)) (v2 := .int .u8 (d2 : Int)) (v3 := .int .u8 (d3 : Int)) (v4 := .int .u8 (d4 : Int)) (v5 := .int .u8 (d5 : Int)) (v6 := .int .u8 (d6 : Int)) (v7 := .int .u8 (d7 : Int)) (HK.out.trans (K8.out.mono (T := fun k => k = b5) fun _ _ e => e.elim)) (b := b5) (fun _ => rfl)
 have K9 := Lib.hid K9
 clear c0 c1 c2 c3 c4 c5 c6 c7 fz H8 K8 K7 SS
 generalize World.setCell _ ⟨b5, 7, none⟩ _ = wf at *
 go_wp2
 go_roundw
 case rel => exact ⟨i + 1, by omega, by omega, by go_num, Lib.hid ⟨by rw [NX.out]; exact H9.out, K9.out⟩⟩
 case measure => simp [intOf]; omega
def setTo (f : Nat → List Nat) (l : List ByteArray) (k : Nat) : List Nat := relS f (l.take k)
theorem setTo_next (f : Nat → List Nat) {l : List ByteArray} {k : Nat} {x : ByteArray} (h : l[k]? = some x) : setTo f l (k + 1) = orR (setTo f l k) (relW f x.data.toList) := by
 unfold setTo relS
 rw [List.take_add_one, h, List.foldl_append]; rfl
theorem may_alen {v : Wd} (h : mayB v = true) : 1 ≤ alen v := by
 have := (may_pos h).1
 unfold alen
 omega
set_option maxHeartbeats 4000000 in
set_option maxRecDepth 100000 in
theorem mset (w : World) (b : Nat) (f : Nat → List Nat) (v : Value) (G : Nat → Prop) (l : List ByteArray) (h : AtomsAt w b f) (hf : ∀ a, Rel8 (f a)) (hv : WordsAt w v G l) (hm : ∀ x ∈ l, mayB x.data.toList = true) :
  Calls Tryz.prog 59 #[.map (some b), v] w fun e w' => e = .returned (relV (relS f l)) ∧ Chg (fun _ => False) w w' := by
 have HV := Lib.hid hv
 obtain ⟨la, cap, rfl, hl0, _⟩ := hv
 unfold maxLen at hl0
 have AA := Lib.hid (fun W (k : Chg (fun _ => False) w W) => h.chg k (fun e => e))
 have RF := Lib.hid hf
 have ALL := Lib.hid (show setTo f l l.length = relS f l from by unfold setTo; rw [List.take_length])
 have NXT := Lib.hid (fun k x => @setTo_next f l k x)
 have REL := Lib.hid (fun k => show Rel8 (setTo f l k) from relS_rel hf fun x hx => hm x (List.mem_of_mem_take hx))
 have WO := Lib.hid (fun W (k : Chg (fun _ => False) w W) x (hx : x ∈ l) (hs : x.size ≤ maxLen) => mword W b f x (h.chg k (fun e => e)) hf hs (may_alen (hm x hx)))
 have RW := Lib.hid (fun x (hx : x ∈ l) => show Rel8 (relW f x.data.toList) from relA_rel hf _ (atoms_ne (hm x hx)))
 have B1 := obj_alloc_new (w.alloc (.cells #[.int .u8 0, .int .u8 0, .int .u8 0, .int .u8 0, .int .u8 0, .int .u8 0, .int .u8 0, .int .u8 0] 120)) (.cells #[.int .u8 0, .int .u8 0, .int .u8 0, .int .u8 0, .int .u8 0, .int .u8 0, .int .u8 0, .int .u8 0] 120)
 rw [World.size_alloc] at B1
 have ZB := Lib.hid (show relB ((w.alloc (.cells #[.int .u8 0, .int .u8 0, .int .u8 0, .int .u8 0, .int .u8 0, .int .u8 0, .int .u8 0, .int .u8 0] 120)).alloc (.cells #[.int .u8 0, .int .u8 0, .int .u8 0, .int .u8 0, .int .u8 0, .int .u8 0, .int .u8 0, .int .u8 0] 120)) w.heap.size zeroR from obj_alloc _ (obj_alloc_new _ _))
 have XB := Lib.hid (show relB _ (w.heap.size + 1) (setTo f l 0) from B1)
 have KB := Lib.hid ((chg_alloc (fun _ => False) w (.cells #[.int .u8 0, .int .u8 0, .int .u8 0, .int .u8 0, .int .u8 0, .int .u8 0, .int .u8 0, .int .u8 0] 120)).trans (chg_alloc _ _ (.cells #[.int .u8 0, .int .u8 0, .int .u8 0, .int .u8 0, .int .u8 0, .int .u8 0, .int .u8 0, .int .u8 0] 120)))
 clear h hf hm B1
 go_enter Tryz.func59, Tryz.ntmps59
 go_wp2_with fail
 generalize (w.alloc (.cells #[.int .u8 0, .int .u8 0, .int .u8 0, .int .u8 0, .int .u8 0, .int .u8 0, .int .u8 0, .int .u8 0] 120)).alloc (.cells #[.int .u8 0, .int .u8 0, .int .u8 0, .int .u8 0, .int .u8 0, .int .u8 0, .int .u8 0, .int .u8 0] 120) = w3 at *
 obtain ⟨b4, hb⟩ : ∃ b, b = w.heap.size := ⟨_, rfl⟩
 rw [← hb] at ZB XB
 rw [← hb]
 have hb4 : w.heap.size ≤ b4 := by omega
 have hb5 : w.heap.size ≤ b4 + 1 := by omega
 clear hb
 go_loopw [10] (fun iv wr => ∃ k : Nat, k ≤ l.length ∧ iv = .int .i64 k ∧ Hid (relB wr (b4 + 1) (setTo f l k) ∧ Chg (fun k => k = b4 + 1) w3 wr)) (fun iv _ => l.length - (intOf iv).toNat)
 case atStart => exact ⟨0, by omega, rfl, Lib.hid ⟨XB.out, Chg.refl _ _⟩⟩
 case round =>
 obtain ⟨k, hk, rfl, HI⟩ := hrel
 obtain ⟨a0, a1, a2, a3, a4, a5, a6, a7, e8⟩ := rel8_lit (REL.out k)
 by_cases hlt : k < l.length
 rotate_left
 · obtain rfl : k = l.length := by omega
   have RA := Lib.hid ALL.out
   have hx := HI.out.1
   have hk := HI.out.2
   rw [e8] at hx RA
   have OB := Lib.hid (hk.obj (by omega) ZB.out)
   have KF := Lib.hid (chg_new KB.out hb5 hk)
   obtain ⟨c0, c1, c2, c3, c4, c5, c6, c7⟩ := rel_cells hx
   obtain ⟨z0, z1, z2, z3, z4, z5, z6, z7⟩ := rel_cells (a0 := 0) (a1 := 0) (a2 := 0) (a3 := 0) (a4 := 0) (a5 := 0) (a6 := 0) (a7 := 0) OB.out
   have fz : ∀ i, wr.frozen? ⟨b4, i, none⟩ = false := fun i => relB_frozen (r := [0, 0, 0, 0, 0, 0, 0, 0]) OB.out i
   clear HI hx hk e8 REL RW WO NXT RF
   go_wp2
   obtain ⟨f0, f1, f2, f3, f4, f5, f6, f7⟩ := rel_cells (set8_rel (o0 := 0) (o1 := 0) (o2 := 0) (o3 := 0) (o4 := 0) (o5 := 0) (o6 := 0) (o7 := 0) (a0 := a0) (a1 := a1) (a2 := a2) (a3 := a3) (a4 := a4) (a5 := a5) (a6 := a6) (a7 := a7) OB.out)
   have K8 := chg_set8 (v0 := .int .u8 (a0 : Int)) (v1 := .int .u8 (a1 : Int)) (v2 := .int .u8 (a2 : Int)) (v3 := .int .u8 (a3 : Int)) (v4 := .int .u8 (a4 : Int)) (v5 := .int .u8 (a5 : Int)) (v6 := .int .u8 (a6 : Int)) (v7 := .int .u8 (a7 : Int)) KF.out (fun h => absurd h (Nat.not_lt.2 hb4))
   clear OB z0 z1 z2 z3 z4 z5 z6 z7 c0 c1 c2 c3 c4 c5 c6 c7 fz
   generalize World.setCell _ ⟨b4, 7, none⟩ _ = wf at *
   refine bodyPost_ret (v := .agg #[.int .u8 (a0 : Int), .int .u8 (a1 : Int), .int .u8 (a2 : Int), .int .u8 (a3 : Int), .int .u8 (a4 : Int), .int .u8 (a5 : Int), .int .u8 (a6 : Int), .int .u8 (a7 : Int)]) ?_ rfl ?_
   · simp [results, Tryz.results59, go_sem, f0, f1, f2, f3, f4, f5, f6, f7]
   · exact ⟨by rw [← RA.out]; rfl, K8⟩
 obtain ⟨x, hx⟩ : ∃ x, l[k]? = some x := ⟨_, List.getElem?_eq_getElem hlt⟩
 have XM : x ∈ l := List.mem_of_getElem? hx
 have HX := Lib.hid (show relB wr (b4 + 1) [a0, a1, a2, a3, a4, a5, a6, a7] from by rw [← e8]; exact HI.out.1)
 have HK := Lib.hid HI.out.2
 have KW := Lib.hid (chg_new KB.out hb5 HI.out.2)
 have SS := Lib.hid (fun W (k : Chg (fun _ => False) wr W) => rel_cells (k.obj (fun e => e) HX.out))
 have RN := REL.out (k + 1)
 have NX := Lib.hid (NXT.out k x hx)
 obtain ⟨g0, g1, g2, g3, g4, g5, g6, g7, e10⟩ := rel8_lit (RW.out x XM)
 have TH := Lib.hid (fun W => mor W [a0, a1, a2, a3, a4, a5, a6, a7] [g0, g1, g2, g3, g4, g5, g6, g7] (by rw [← e8]; exact REL.out k) (by rw [← e10]; exact RW.out x XM))
 rw [e8, e10] at NX
 rw [NX.out] at RN
 obtain ⟨d0, d1, d2, d3, d4, d5, d6, d7, e9⟩ := rel8_lit RN
 rw [e9] at TH NX
 obtain ⟨sa', sc', e1, _, hcl⟩ := HV.out.chg KW.out (fun _ _ e => e)
 cases e1
 obtain ⟨lb, lo, rfl, _, q0, hxs⟩ := hcl k x hx
 have WX := Lib.hid (fun W (k : Chg (fun _ => False) w W) => WO.out W k x XM hxs)
 rw [e10] at WX
 clear HI e8 e9 e10 RN NXT REL RW WO ALL AA RF hcl hx hxs XM
 go_wp2_with fail
 refine wp_region_planL (N := 21) [.rd [0, 1, 2], .ef 3, .ef 4, .ef 5] 5 (fun W => Cells8 W (b4 + 1) a0 a1 a2 a3 a4 a5 a6 a7) (by kernel_rfl) (by kernel_rfl) (by kernel_rfl) (by kernel_rfl) (by kernel_rfl) (Nat.le_of_ble_eq_true rfl) (SS.out wr.drew (chg_drew _ _)) ?_
 refine planL_rd (A := ?A1) ?h1 ?h2
 case h1 =>
  rintro w' ⟨z0, z1, z2, z3, z4, z5, z6, z7⟩ K hK
  simp only [opsAt, List.filterMap_cons, List.filterMap_nil, List.getElem?_toArray, List.getElem?_cons_succ, List.getElem?_cons_zero]
  repeat still_step
  refine wpStill_nil ?_
  exact hK
 have WD := Lib.hid (WX.out wr.drew KW.out.drew)
 refine planL_ef rfl ?_
 go_wp2_with fail
 (with_reducible refine (WD.out).mono ?_)
 rintro e w7 ⟨rfl, k7⟩
 have K7 := Lib.hid ((chg_drew (fun _ => False) wr).trans k7)
 clear WD k7
 rw [relV_lit]
 go_wp2_with fail
 refine ⟨.inr (SS.out w7 K7.out), ?_⟩
 have T7 := TH.out w7
 rw [relV_lit, relV_lit, relV_lit] at T7
 have T7 := Lib.hid T7
 refine planL_ef rfl ?_
 go_wp2_with fail
 (with_reducible refine (T7.out).mono ?_)
 rintro e w8 ⟨rfl, k8⟩
 have K8 := Lib.hid (K7.out.trans k8)
 clear T7 k8
 go_wp2_with fail
 refine ⟨.inr (SS.out w8 K8.out), ?_⟩
 have H8 := Lib.hid (K8.out.obj (fun e => e) HX.out)
 obtain ⟨c0, c1, c2, c3, c4, c5, c6, c7⟩ := rel_cells (w := w8) (b := b4 + 1) (a0 := a0) (a1 := a1) (a2 := a2) (a3 := a3) (a4 := a4) (a5 := a5) (a6 := a6) (a7 := a7) H8.out
 have fz : ∀ i, w8.frozen? ⟨b4 + 1, i, none⟩ = false := fun i => relB_frozen (r := [a0, a1, a2, a3, a4, a5, a6, a7]) H8.out i
 refine planL_ef rfl ?_
 go_wp2_with fail
 unfold PlanQ
 refine planL_nil ?_
 have H9 := Lib.hid (set8_rel (a0 := d0) (a1 := d1) (a2 := d2) (a3 := d3) (a4 := d4) (a5 := d5) (a6 := d6) (a7 := d7) H8.out)
 have K9 := chg_set8 (v0 := .int .u8 (d0 : Int)) (v1 := .int .u8 (d1 : Int)) (v2 := .int .u8 (d2 : Int)) (v3 := .int .u8 (d3 : Int)) (v4 := .int .u8 (d4 : Int)) (v5 := .int .u8 (d5 : Int)) (v6 := .int .u8 (d6 : Int)) (v7 := .int .u8 (d7 : Int)) (HK.out.trans (K8.out.mono (T := fun k => k = b4 + 1) fun _ _ e => e.elim)) (b := b4 + 1) (fun _ => rfl)
 have K9 := Lib.hid K9
 clear c0 c1 c2 c3 c4 c5 c6 c7 fz H8 K8 K7 SS q0
 generalize World.setCell _ ⟨b4 + 1, 7, none⟩ _ = wf at *
 go_wp2
 go_roundw
 case rel => exact ⟨k + 1, by omega, by go_num, Lib.hid ⟨by rw [NX.out]; exact H9.out, K9.out⟩⟩
 case measure => simp [intOf]; omega
def mholdsB (f : Nat → List Nat) (r : BRul) : Bool := subR (relW f r.1.data.toList) (relW f r.2.data.toList)
set_option maxHeartbeats 4000000 in
set_option maxRecDepth 100000 in
theorem mrule (w : World) (b : Nat) (f : Nat → List Nat) (r : BRul) (h : AtomsAt w b f) (hf : ∀ a, Rel8 (f a)) (h1 : r.1.size ≤ maxLen) (h2 : r.2.size ≤ maxLen) (m1 : mayB r.1.data.toList = true) (m2 : mayB r.2.data.toList = true) :
  Calls Tryz.prog 51 #[.map (some b), .agg #[.string r.1, .string r.2]] w fun e w' => e = .returned (.bool (mholdsB f r)) ∧ Chg (fun _ => False) w w' := by
 have W1 := Lib.hid (fun W (k : Chg (fun _ => False) w W) => mword W b f r.1 (h.chg k (fun e => e)) hf h1 (may_alen m1))
 have W2 := Lib.hid (fun W (k : Chg (fun _ => False) w W) => mword W b f r.2 (h.chg k (fun e => e)) hf h2 (may_alen m2))
 have WI := Lib.hid (fun W => mwithin W (relW f r.1.data.toList) (relW f r.2.data.toList) (relA_rel hf _ (atoms_ne m1)) (relA_rel hf _ (atoms_ne m2)))
 have RES := Lib.hid (show mholdsB f r = subR (relW f r.1.data.toList) (relW f r.2.data.toList) from rfl)
 have OB := Lib.hid (obj_alloc_new w (.cells #[.string r.1, .string r.2] 66))
 have KB := Lib.hid (chg_alloc (fun _ => False) w (.cells #[.string r.1, .string r.2] 66))
 obtain ⟨x, y⟩ := r
 generalize mholdsB f (x, y) = res at *
 simp only at h1 h2 W1 W2 WI RES OB KB
 clear h hf m1 m2
 generalize relW f x.data.toList = rx at *
 generalize relW f y.data.toList = ry at *
 go_enter Tryz.func51, Tryz.ntmps51
 go_wp2_with fail
 generalize w.alloc (.cells #[.string x, .string y] 66) = w1 at *
 generalize w.heap.size = bx at OB ⊢
 have SS := Lib.hid (fun W (k : Chg (fun _ => False) w1 W) => (⟨cell_of (o := 0) (k.obj (fun e => e) OB.out) rfl, cell_of (o := 1) (k.obj (fun e => e) OB.out) rfl⟩ : W.cell? ⟨bx, 0, none⟩ = some (.string x) ∧ W.cell? ⟨bx, 1, none⟩ = some (.string y)))
 refine wp_region_plan (N := 14) [.rd [0, 1, 2, 4, 5, 6], .ef 3, .ef 7, .ef 8, .rd [9]] (fun W => W.cell? ⟨bx, 0, none⟩ = some (.string x) ∧ W.cell? ⟨bx, 1, none⟩ = some (.string y)) (by kernel_rfl) (by kernel_rfl) (by kernel_rfl) (by kernel_rfl) (Nat.le_of_ble_eq_true rfl) (SS.out w1 (Chg.refl _ _)) ?_
 refine plan_rd (A := ?A1) ?h1 ?h2
 case h1 =>
  rintro w' ⟨z0, z1⟩ K hK
  simp only [opsAt, List.filterMap_cons, List.filterMap_nil, List.getElem?_toArray, List.getElem?_cons_succ, List.getElem?_cons_zero]
  repeat still_step
  refine wpStill_nil ?_
  exact hK
 have V1 := Lib.hid (W1.out w1.drew KB.out.drew)
 refine plan_ef rfl ?_
 go_wp2_with fail
 (with_reducible refine (V1.out).mono ?_)
 rintro e w2 ⟨rfl, k2⟩
 have K2 := Lib.hid ((chg_drew (fun _ => False) w1).trans k2)
 clear V1 k2
 go_wp2_with fail
 refine ⟨SS.out w2 K2.out, ?_⟩
 have V2 := Lib.hid (W2.out w2 (KB.out.trans K2.out))
 refine plan_ef rfl ?_
 go_wp2_with fail
 (with_reducible refine (V2.out).mono ?_)
 rintro e w3 ⟨rfl, k3⟩
 have K3 := Lib.hid (K2.out.trans k3)
 clear V2 k3
 go_wp2_with fail
 refine ⟨SS.out w3 K3.out, ?_⟩
 have V3 := Lib.hid (WI.out w3)
 refine plan_ef rfl ?_
 go_wp2_with fail
 (with_reducible refine (V3.out).mono ?_)
 rintro e w4 ⟨rfl, k4⟩
 have K4 := Lib.hid (K3.out.trans k4)
 clear V3 k4
 go_wp2_with fail
 refine ⟨SS.out w4 K4.out, ?_⟩
 refine plan_rd (A := ?A2) ?h3 ?h4
 case h3 =>
  rintro w' z0 K hK
  simp only [opsAt, List.filterMap_cons, List.filterMap_nil, List.getElem?_toArray, List.getElem?_cons_succ, List.getElem?_cons_zero]
  repeat still_step
  refine wpStill_nil ?_
  exact hK
 refine plan_nil ?_
 go_wp2
 go_ret
 exact ⟨by rw [RES.out]; rfl, KB.out.trans K4.out⟩
end Go.Proofs.YthdfplafihmejaaGreat

namespace Go.Proofs.YthdfplafihmejaaGreat
open Go.RowKit Go.Maps

theorem chg_setRow {S : Nat → Prop} {a b : World} (h : Chg S a b) {g : Nat} (hp : g < a.heap.size → S g) (cs : Array Value) : Chg S a (b.setRow g cs) :=
 ⟨h.os, h.tape, h.output, by simpa [World.setRow] using h.size, fun k hk hs => by
  rw [setRow_other _ _ _ _ (by rintro rfl; exact hs (hp hk))]; exact h.block k hk hs⟩
theorem msplice {l : List Nat} (h : l.length ≤ 8) : splice (u8L zeroR) 0 (u8L l) = u8L (pad8 l) := by
 have hz : (u8L zeroR).length = 8 := rfl
 unfold splice
 apply List.ext_getElem?
 intro i
 have hu : ∀ n : Nat, (u8L l).length = l.length := fun _ => u8L_len l
 rw [List.take_zero, List.nil_append, Nat.zero_add]
 by_cases h1 : i < l.length
 · rw [List.getElem?_append_left (by rw [hu 0]; exact h1), u8L_get h1, u8L_get (l := pad8 l) (by unfold pad8; rw [List.length_map, List.length_range]; omega)]
   unfold pad8
   rw [map8 _ (by omega)]
 · rw [List.getElem?_append_right (by rw [hu 0]; omega), hu 0, List.getElem?_drop]
   have e : l.length + (i - l.length) = i := by omega
   rw [e]
   by_cases h2 : i < 8
   · rw [u8L_get (l := pad8 l) (by unfold pad8; rw [List.length_map, List.length_range]; omega), u8L_get (l := zeroR) (by exact h2)]
     unfold pad8
     rw [map8 _ h2, List.getD_eq_getElem?_getD (l := l), List.getElem?_eq_none (by omega)]
     congr 2
     have : ∀ k, k < 8 → zeroR.getD k 0 = 0 := by decide
     rw [this i h2]; rfl
   · rw [List.getElem?_eq_none (by rw [hz]; omega), List.getElem?_eq_none (by rw [u8L_len]; unfold pad8; rw [List.length_map, List.length_range]; omega)]
/-- A map that tells what a model's rows tell, of no more atoms than rows. -/
def AtomsTo (w : World) (b k : Nat) (f : Nat → List Nat) : Prop := ∃ n g, n ≤ k ∧ MapV Tryz.prog 62 w b n g ∧ ∀ a : Nat, a < 65536 → (g (.int .u16 (a : Int))).getD (relV zeroR) = relV (f a)
theorem AtomsTo.chg {S : Nat → Prop} {w w' : World} {b k : Nat} {f : Nat → List Nat} (h : AtomsTo w b k f) (hc : Chg S w w') (hs : ¬ S b) : AtomsTo w' b k f := by
 obtain ⟨n, g, h1, h2, h3⟩ := h
 exact ⟨n, g, h1, h2.chg hc hs, h3⟩
theorem atoms_put {g : Lit → Option Value} {f : Nat → List Nat} {r : List Nat} {x : Nat} (h : ∀ a : Nat, a < 65536 → (g (.int .u16 (a : Int))).getD (relV zeroR) = relV (f a)) :
  ∀ a : Nat, a < 65536 → (putV g (.int .u16 (x : Int)) (some (relV r)) (.int .u16 (a : Int))).getD (relV zeroR) = relV (if a = x then r else f a) := fun a ha => by
 by_cases e : a = x
 · subst e
   rw [putV_same, if_pos rfl]; rfl
 · rw [putV_other g (by intro q; apply e; have := (Lit.int.inj q).2; omega), if_neg e]
   exact h a ha
theorem Tryz.sizeByte : (Tryz.prog.info? 5).map (·.size) = some 1 := by kernel_rfl
set_option maxHeartbeats 4000000 in
set_option maxRecDepth 100000 in
theorem mread (w : World) (N : Int) (v : Value) (G : Nat → Prop) (M : List BRow) (h : MRowsAt w v G M) (hM : ∀ x ∈ M, 1 ≤ x.2.length ∧ x.2.length ≤ 8) :
  Calls Tryz.prog 50 #[.agg #[.int .i64 N, v]] w fun e w' => ∃ b, e = .returned (.map (some b)) ∧ AtomsAt w' b (modF M) ∧ Chg (fun _ => False) w w' := by
 have HV := Lib.hid h
 obtain ⟨la, cap, rfl, hl0, _⟩ := h
 unfold maxLen at hl0
 have OB := Lib.hid (obj_alloc_new w (.cells #[.int .i64 N, .slice la M.length cap] 70))
 have KB := Lib.hid (chg_alloc (fun _ => False) w (.cells #[.int .i64 N, .slice la M.length cap] 70))
 have HL := Lib.hid hM
 have ALL := Lib.hid (show modF (M.take M.length) = modF M from by rw [List.take_length])
 have SN := Lib.hid (fun k x => @modF_snoc M k x)
 have hs1 : (w.alloc (.cells #[.int .i64 N, .slice la M.length cap] 70)).heap.size = w.heap.size + 1 := by rw [World.size_alloc]
 clear hM
 have hmm := fun (w : World) => run_makeMap (P := Tryz.prog) 117 w
 go_enter Tryz.func50, Tryz.ntmps50
 go_wp2_with fail
 clear hmm
 generalize w.alloc (.cells #[.int .i64 N, .slice la M.length cap] 70) = w1 at *
 have M0 := MapV.made Tryz.prog 62 w1
 rw [hs1] at M0
 have K2 := Lib.hid (KB.out.trans (chg_alloc _ _ (.map #[] 0)))
 have A0 := Lib.hid (show AtomsTo (w1.alloc (.map #[] 0)) (w.heap.size + 1) 0 (modF (M.take 0)) from ⟨0, _, Nat.le_refl _, M0, fun a _ => rfl⟩)
 generalize w1.alloc (.map #[] 0) = w2 at *
 clear OB KB M0 hs1
 obtain ⟨bm, hbm⟩ : ∃ b, b = w.heap.size + 1 := ⟨_, rfl⟩
 rw [← hbm] at A0
 rw [← hbm]
 have hbw : w.heap.size ≤ bm := by omega
 clear hbm
 go_loopw [11] (fun iv wr => ∃ k : Nat, k ≤ M.length ∧ iv = .int .i64 k ∧ Hid (AtomsTo wr bm k (modF (M.take k)) ∧ Chg (fun _ => False) w wr)) (fun iv _ => M.length - (intOf iv).toNat)
 case atStart => exact ⟨0, by omega, rfl, Lib.hid ⟨A0.out, K2.out⟩⟩
 case round =>
 obtain ⟨k, hk, rfl, HI⟩ := hrel
 by_cases hlt : k < M.length
 rotate_left
 · obtain rfl : k = M.length := by omega
   have hA := HI.out.1
   rw [ALL.out] at hA
   have HA := Lib.hid hA
   have KF := Lib.hid HI.out.2
   clear HI hA
   go_wp2
   go_ret
   obtain ⟨n, g, _, h2, h3⟩ := HA.out
   exact ⟨bm, rfl, ⟨n, g, h2, h3⟩, KF.out⟩
 obtain ⟨⟨a, T⟩, hx⟩ : ∃ x, M[k]? = some x := ⟨_, List.getElem?_eq_getElem hlt⟩
 obtain ⟨_, _, e1, _, hc⟩ := HV.out.chg HI.out.2 (fun _ _ e => e)
 cases e1
 obtain ⟨g, o, sa, sc, rfl, _, q0, q1, hb, ha⟩ := hc k (a, T) hx
 simp only at q0 q1 hb ha
 obtain ⟨t1, t8⟩ := HL.out (a, T) (List.mem_of_getElem? hx)
 simp only at t1 t8
 have NX := Lib.hid (SN.out k _ hx)
 have BY := Lib.hid hb
 obtain ⟨ta, tc, e2, _, hcl⟩ := hb
 cases e2
 obtain ⟨y0, hy0⟩ : ∃ y, T[0]? = some y := ⟨_, List.getElem?_eq_getElem (by omega)⟩
 obtain ⟨g2, o2, rfl, _, _, _⟩ := hcl 0 y0 hy0
 have R8 := pad8_rel (l := T) (fun y hy => by
  obtain ⟨j, hj⟩ := List.mem_iff_getElem?.1 hy
  obtain ⟨_, _, _, _, _, q⟩ := hcl j y hj
  exact q)
 obtain ⟨d0, d1, d2, d3, d4, d5, d6, d7, e9⟩ := rel8_lit R8
 have B1 := obj_alloc_new (wr.alloc (.cells #[.int .u16 (a : Int), .slice (some ⟨g2, o2, none⟩) T.length sc] 114)) (.cells #[.int .u8 0, .int .u8 0, .int .u8 0, .int .u8 0, .int .u8 0, .int .u8 0, .int .u8 0, .int .u8 0] 120)
 rw [World.size_alloc] at B1
 have kr := (chg_alloc (fun _ => False) wr (.cells #[.int .u16 (a : Int), .slice (some ⟨g2, o2, none⟩) T.length sc] 114)).trans (chg_alloc _ _ (.cells #[.int .u8 0, .int .u8 0, .int .u8 0, .int .u8 0, .int .u8 0, .int .u8 0, .int .u8 0, .int .u8 0] 120))
 have OR := Lib.hid (obj_alloc (.cells #[.int .u8 0, .int .u8 0, .int .u8 0, .int .u8 0, .int .u8 0, .int .u8 0, .int .u8 0, .int .u8 0] 120) (obj_alloc_new wr (.cells #[.int .u16 (a : Int), .slice (some ⟨g2, o2, none⟩) T.length sc] 114)))
 have OX := Lib.hid B1
 have KR := Lib.hid (HI.out.2.trans kr)
 have AR := Lib.hid (HI.out.1.chg kr (fun e => e))
 have BR := Lib.hid (BY.out.chg kr (fun _ _ e => e))
 have hws : w.heap.size ≤ wr.heap.size := HI.out.2.size
 clear HI kr B1 BY hcl R8 hx hy0 hc
 go_wp2_with fail
 generalize (wr.alloc (.cells #[.int .u16 (a : Int), .slice (some ⟨g2, o2, none⟩) T.length sc] 114)).alloc (.cells #[.int .u8 0, .int .u8 0, .int .u8 0, .int .u8 0, .int .u8 0, .int .u8 0, .int .u8 0, .int .u8 0] 120) = w5 at *
 clear q0 q1
 obtain ⟨b5, hb5⟩ : ∃ b, b = wr.heap.size := ⟨_, rfl⟩
 rw [← hb5] at OR OX hws
 rw [← hb5]
 clear hb5
 have r0 := cell_of (o := 0) OR.out rfl
 have r1 := cell_of (o := 1) OR.out rfl
 refine wp_still_tail_drew 3 (by kernel_rfl) (by kernel_rfl) ?_
 simp only [List.take_succ_cons, List.take_zero, List.drop_succ_cons, List.drop_zero]
 repeat still_step
 refine wpStill_nil ?_
 have hcp : ∀ (j : Nat) u, (u8L T)[j]? = some u → w5.drew.cell? ⟨g2, o2 + j, none⟩ = some u := fun j u hj => by
  obtain ⟨_, _, e, _, hcl⟩ := BR.out
  cases e
  unfold u8L at hj
  rw [List.getElem?_map] at hj
  cases hq : T[j]? with
  | none => rw [hq] at hj; cases hj
  | some y =>
   rw [hq] at hj
   cases hj
   obtain ⟨_, _, e, _, q, _⟩ := hcl j y hq
   cases e
   exact q
 have EL := u8L_len T
 have HCP := Lib.hid hcp
 clear hcp
 refine wpList_copyA rfl (.tmp 15) (.tmp 17) 112 112 rfl 5 Tryz.underlying112 Tryz.sizeByte (b5 + 1) 8 8 g2 o2 sc (u8L zeroR) (u8L T) 120 rfl (by rw [EL]; rfl) OX.out HCP.out (u8L_one T) (by rw [EL]; exact t8) (by rw [EL]; exact t8) ?_
 intro w6 hw6
 have k6 : Chg (fun x => x = b5 + 1) w5 w6 := by rw [hw6]; exact chg_setRow (S := fun x => x = b5 + 1) (chg_drew _ _) (fun _ => rfl) _
 have X6 := Lib.hid (show relB w6 (b5 + 1) [d0, d1, d2, d3, d4, d5, d6, d7] from by
  rw [hw6, msplice t8, e9]
  exact setRow_heap _ _ _ _ _ _ OX.out)
 have hne : bm ≠ b5 + 1 := by
  obtain ⟨n, gg, _, h2, _⟩ := AR.out
  exact fun e => h2.ne_cells OX.out e.symm
 have A6 := AR.out.chg k6 hne
 have K6 := Lib.hid (KR.out.next k6 (fun i hi e => by omega))
 have r6 := cell_of (o := 0) (k6.obj (by omega) OR.out) rfl
 rw [EL]
 obtain ⟨n6, g6, l6, mv6, af6⟩ := A6
 have MV := Lib.hid mv6
 have AF := Lib.hid (atoms_put (r := pad8 T) (x := a) af6)
 have hn6 : n6 < maxLen := by unfold maxLen; omega
 rw [e9] at AF NX
 obtain ⟨c0, c1, c2, c3, c4, c5, c6, c7⟩ := rel_cells X6.out
 clear hw6 k6 OX OR r0 r1 AR KR BR HCP mv6 af6 e9
 go_wp2_with (at_mapUpdate; refine wpList_putV rfl (.tmp 19) (.tmp 21) (.tmp 22) 117 rfl 62 120 atomK Tryz.underlying117 bm n6 g6 rfl MV.out hn6 (.int .u16 (a : Int)) (relV [d0, d1, d2, d3, d4, d5, d6, d7]) (.int .u16 (a : Int)) rfl rfl (atkey_of a ha) ?nx)
 case nx =>
  intro w7 n7 m7 _ _ hn7 k7
  have K7 := Lib.hid (K6.out.next k7 (fun i hi e => by omega))
  have A7 := Lib.hid (show AtomsTo w7 bm (k + 1) (modF (M.take (k + 1))) from ⟨n7, _, by omega, m7, by rw [NX.out]; exact AF.out⟩)
  clear K6 MV AF m7 k7 X6 c0 c1 c2 c3 c4 c5 c6 c7 r6 hn7
  go_wp2
  go_roundw
  case rel => exact ⟨k + 1, by omega, by go_num, Lib.hid ⟨A7.out, K7.out⟩⟩
  case measure => simp [intOf]; omega
theorem mod_snoc {N : Int} {M : List BRow} {k : Nat} {x : BRow} (h : M[k]? = some x) (hp : (M.take k).all (mrowB N) = true) : (M.take (k + 1)).all (mrowB N) = mrowB N x := by
 rw [List.take_add_one, h, List.all_append, hp]; simp
theorem mod_bad {N : Int} {M : List BRow} {k : Nat} {x : BRow} (h : M[k]? = some x) (hx : mrowB N x = false) : modB N M = false := by
 unfold modB
 rw [Bool.and_eq_false_iff]
 refine .inr ?_
 rw [Bool.eq_false_iff]
 intro q
 have := List.all_eq_true.1 q x (List.mem_of_getElem? h)
 rw [hx] at this; cases this
theorem bytes_snoc {n : Nat} {T : List Nat} {j : Nat} {y : Nat} (h : T[j]? = some y) (hp : (T.take j).all (byteB n) = true) : (T.take (j + 1)).all (byteB n) = byteB n y := by
 rw [List.take_add_one, h, List.all_append, hp]; simp
theorem bytes_bad {n : Nat} {T : List Nat} {j : Nat} {y : Nat} (h : T[j]? = some y) (hx : byteB n y = false) : T.all (byteB n) = false := by
 rw [Bool.eq_false_iff]
 intro q
 have := List.all_eq_true.1 q y (List.mem_of_getElem? h)
 rw [hx] at this; cases this
theorem shr_u8 (y n : Nat) : ((y : Int) / 2 ^ n != 0) = !byteB n y := by
 have h1 : ((y : Int) / 2 ^ n) = ((y / 2 ^ n : Nat) : Int) := by simp
 unfold byteB
 rw [h1]
 by_cases h : y / 2 ^ n = 0
 · rw [h]; simp
 · rw [decide_eq_false h, Bool.not_false, bne_iff_ne]; omega
set_option maxHeartbeats 4000000 in
set_option maxRecDepth 100000 in
theorem mmay (w : World) (N : Int) (v : Value) (G : Nat → Prop) (M : List BRow) (h : MRowsAt w v G M) :
  Calls Tryz.prog 24 #[.agg #[.int .i64 N, v]] w fun e w' => e = .returned (.bool (modB N M)) ∧ Chg (fun _ => False) w w' := by
 have HV := Lib.hid h
 obtain ⟨la, cap, rfl, hl0, _⟩ := h
 unfold maxLen at hl0
 have OB := Lib.hid (obj_alloc_new w (.cells #[.int .i64 N, .slice la M.length cap] 70))
 have KB := Lib.hid (chg_alloc (fun _ => False) w (.cells #[.int .i64 N, .slice la M.length cap] 70))
 have RES := Lib.hid (show modB N M = (decide (1 ≤ N ∧ N ≤ 8) && M.all (mrowB N)) from rfl)
 have BAD := Lib.hid (fun k x => @mod_bad N M k x)
 generalize modB N M = res at *
 go_enter Tryz.func24, Tryz.ntmps24
 by_cases h1 : N < 1
 · have g1 : decide (N < 1) = true := decide_eq_true h1
   have RF : res = false := by rw [RES.out, decide_eq_false (by omega)]; rfl
   subst RF
   clear RES BAD HV
   go_wp2
   go_ret
   exact ⟨rfl, KB.out⟩
 by_cases h8 : 8 < N
 · have g1 : decide (N < 1) = false := decide_eq_false h1
   have g2 : decide (8 < N) = true := decide_eq_true h8
   have RF : res = false := by rw [RES.out, decide_eq_false (by omega)]; rfl
   subst RF
   clear RES BAD HV
   go_wp2
   go_ret
   exact ⟨rfl, KB.out⟩
 obtain ⟨n, rfl⟩ : ∃ n : Nat, N = (n : Int) := ⟨N.toNat, by omega⟩
 have g1 : decide ((n : Int) < 1) = false := decide_eq_false h1
 have g2 : decide (8 < (n : Int)) = false := decide_eq_false h8
 have RES := Lib.hid (show res = M.all (mrowB n) from by rw [RES.out, decide_eq_true (by omega)]; rfl)
 have hn8 : (n : Int) ≤ 8 := by omega
 go_wp2_with fail
 generalize w.alloc (.cells #[.int .i64 (n : Int), .slice la M.length cap] 70) = w1 at *
 obtain ⟨b, hb⟩ : ∃ b, b = w.heap.size := ⟨_, rfl⟩
 rw [← hb] at OB
 rw [← hb]
 clear hb g1 g2 h1 h8
 go_loopw [18] (fun iv wr => ∃ k : Nat, k ≤ M.length ∧ iv = .int .i64 k ∧ Hid ((M.take k).all (mrowB n) = true ∧ Chg (fun _ => False) w1 wr)) (fun iv _ => M.length - (intOf iv).toNat)
 case atStart => exact ⟨0, by omega, rfl, Lib.hid ⟨rfl, Chg.refl _ _⟩⟩
 case round =>
 obtain ⟨k, hk, rfl, HI⟩ := hrel
 by_cases hlt : k < M.length
 rotate_left
 · obtain rfl : k = M.length := by omega
   have RT : res = true := by have := HI.out.1; rw [List.take_length] at this; rw [RES.out, this]
   subst RT
   have KF := Lib.hid (KB.out.trans HI.out.2)
   clear HI BAD
   go_wp2
   go_ret
   exact ⟨rfl, KF.out⟩
 obtain ⟨⟨a, T⟩, hx⟩ : ∃ x, M[k]? = some x := ⟨_, List.getElem?_eq_getElem hlt⟩
 obtain ⟨_, _, e1, _, hc⟩ := HV.out.chg (KB.out.trans HI.out.2) (fun _ _ e => e)
 cases e1
 obtain ⟨g, o, sa, sc, rfl, _, q0, q1, hb, ha⟩ := hc k (a, T) hx
 simp only at q0 q1 hb ha
 have NX := Lib.hid (mod_snoc hx HI.out.1)
 have BD := Lib.hid (BAD.out k (a, T) hx)
 have RW := Lib.hid (show mrowB n (a, T) = (decide ((T.length : Int) = n) && T.all (byteB n)) from rfl)
 have kr := chg_alloc (fun _ => False) wr (.cells #[.int .u16 (a : Int), .slice sa T.length sc] 114)
 have OR := Lib.hid (obj_alloc_new wr (.cells #[.int .u16 (a : Int), .slice sa T.length sc] 114))
 have KR := Lib.hid (HI.out.2.trans kr)
 have BR := Lib.hid (hb.chg kr (fun _ _ e => e))
 have htl : T.length ≤ maxLen := by obtain ⟨_, _, _, q, _⟩ := hb; exact q
 unfold maxLen at htl
 have c0 := cell_of (o := 0) (HI.out.2.obj (fun e => e) OB.out) rfl
 have d0 := cell_of (o := 0) (KR.out.obj (fun e => e) OB.out) rfl
 generalize mrowB n (a, T) = rb at *
 clear HI kr hx hc hb BAD
 by_cases hT : (T.length : Int) = n
 rotate_left
 · have g3 : ((T.length : Int) != n) = true := bne_iff_ne.2 hT
   have RF : res = false := BD.out (by rw [RW.out, decide_eq_false hT]; rfl)
   subst RF
   have KF := Lib.hid (KB.out.trans KR.out)
   clear BR RW BD NX hT
   go_wp2
   go_ret
   exact ⟨rfl, KF.out⟩
 have g3 : ((T.length : Int) != n) = false := bne_eq_false_iff_eq.2 hT
 have RW := Lib.hid (show rb = T.all (byteB n) from by rw [RW.out, decide_eq_true hT]; rfl)
 clear hT
 go_wp2_with fail
 clear q0 q1 c0 d0 g3
 generalize wr.alloc (.cells #[.int .u16 (a : Int), .slice sa T.length sc] 114) = w5 at *
 generalize wr.heap.size = b5 at *
 go_loopw [31] (fun iv wq => ∃ j : Nat, j ≤ T.length ∧ iv = .int .i64 j ∧ Hid ((T.take j).all (byteB n) = true ∧ Chg (fun _ => False) w5 wq)) (fun iv _ => T.length - (intOf iv).toNat)
 case atStart => exact ⟨0, by omega, rfl, Lib.hid ⟨rfl, Chg.refl _ _⟩⟩
 case round =>
 obtain ⟨j, hj, rfl, HJ⟩ := hrel
 by_cases hjl : j < T.length
 rotate_left
 · obtain rfl : j = T.length := by omega
   have RT : rb = true := by have := HJ.out.1; rw [List.take_length] at this; rw [RW.out, this]
   have KF := Lib.hid (KR.out.trans HJ.out.2)
   subst RT
   clear HJ BD RW
   go_wp2
   go_roundw
   case rel => exact ⟨k + 1, by omega, by go_num, Lib.hid ⟨NX.out, KF.out⟩⟩
   case measure => simp [intOf]; omega
 obtain ⟨y, hy⟩ : ∃ y, T[j]? = some y := ⟨_, List.getElem?_eq_getElem hjl⟩
 obtain ⟨_, _, e2, _, hcl⟩ := BR.out.chg HJ.out.2 (fun _ _ e => e)
 cases e2
 obtain ⟨g2, o2, rfl, _, q0, hy8⟩ := hcl j y hy
 have NY := Lib.hid (bytes_snoc hy HJ.out.1)
 have BY := Lib.hid (bytes_bad (n := n) hy)
 have K6 := Lib.hid HJ.out.2
 have KX := Lib.hid (KR.out.trans HJ.out.2)
 have SH := shr_u8 y n
 have c0 := cell_of (o := 0) (KX.out.obj (fun e => e) OB.out) rfl
 clear HJ hcl hy
 cases hbb : byteB n y with
 | true =>
  rw [hbb] at SH NY
  clear hbb BY BD
  go_wp2
  go_roundw
  case rel => exact ⟨j + 1, by omega, by go_num, Lib.hid ⟨NY.out, K6.out⟩⟩
  case measure => simp [intOf]; omega
 | false =>
  rw [hbb] at SH
  have RF : res = false := BD.out (by rw [RW.out]; exact BY.out hbb)
  subst RF
  have KF := Lib.hid (KB.out.trans KX.out)
  clear hbb BY BD NY RW NX
  go_wp2
  go_ret
  exact ⟨rfl, KF.out⟩
end Go.Proofs.YthdfplafihmejaaGreat
