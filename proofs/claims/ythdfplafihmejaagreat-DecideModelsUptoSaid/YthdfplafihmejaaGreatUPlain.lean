/-
  What is accepted, in plain Lean.
  What is accepted without one that isn't, in plain Lean.
  What the laws of what is accepted lean on, in plain Lean.
-/
import Derived.Test.YthdfplafihmejaaGreatRHelp
import Derived.Test.YthdfplafihmejaaGreatSAt
namespace Go.Proofs.YthdfplafihmejaaGreat
open Go.RowKit

/-! a list of words once reached stays right, while no rule came that can be used on it -/
theorem findGo_none {w v : Wd} : ∀ (f i : Nat), findGo w v i f = -1 → ∀ a, i ≤ a → a < i + f → ¬ (w.drop (2 * a)).take v.length = v
 | 0, i, _, a, h1, h2 => by omega
 | f + 1, i, h, a, h1, h2 => by
  unfold findGo at h
  split at h
  ·omega
  ·rename_i hn
   by_cases e : a = i
   ·subst e; exact hn
   ·exact findGo_none f (i + 1) h a (by omega) (by omega)
theorem findI_none {w v : Wd} (h : findI w v 0 < 0) {a : Nat} : standsB v w a = false := by
 rw [Bool.eq_false_iff]
 intro hs
 obtain ⟨h1, h2, h3⟩ := (stands_iff _ _ _).1 hs
 have hm : alen v = v.length / 2 := rfl
 have h0 : findI w v 0 = -1 := by
  rcases findGo_ge w v (alen w + 1 - alen v - 0) 0 with q | q
  ·exact q
  ·unfold findI at h; omega
 exact findGo_none _ _ h0 a (Nat.zero_le _) (by omega) h3
def staleB (R : List BRul) (n : Nat) (L : List ByteArray) : Bool := (R.drop n).any fun r => countsB (brul r) && L.any fun w => decide (0 ≤ findI w.data.toList r.1.data.toList 0)
/-- A list of all that a word reaches. -/
structure Row12 (R : List BRul) (b : Int) (s : ByteArray) (L : List ByteArray) : Prop where
 err : rowErr R s b = 0
 mem : ∀ t : ByteArray, t ∈ L ↔ Reach (R.map brul) s.data.toList t.data.toList
theorem brul_take (R : List BRul) (n : Nat) : (R.take n).map brul = (R.map brul).take n := List.map_take ..
theorem stale_reach {R : List BRul} {n : Nat} {s : ByteArray} {L : List ByteArray} (hm : ∀ t : ByteArray, t ∈ L ↔ Reach ((R.take n).map brul) s.data.toList t.data.toList) (h : staleB R n L = false) {v : Wd} (hv : Reach (R.map brul) s.data.toList v) : Reach ((R.take n).map brul) s.data.toList v := by
 induction hv with
 | refl => exact .refl
 | @tail u v _ st ih =>
  obtain ⟨r, hr, hc, a, ha, hs, e⟩ := stepTo_iff.1 st
  refine ih.tail (stepTo_iff.2 ⟨r, ?_, hc, a, ha, hs, e⟩)
  obtain ⟨q, hq, rfl⟩ := List.mem_map.1 hr
  rw [← List.take_append_drop n R] at hq
  rcases List.mem_append.1 hq with h1 | h1
  ·exact List.mem_map_of_mem h1
  ·exfalso
   have hu : bar u ∈ L := (hm _).2 (by rw [bar_list]; exact ih)
   have h2 := List.any_eq_false.1 h q h1
   rw [hc, Bool.true_and, Bool.not_eq_true] at h2
   have h3 := List.any_eq_false.1 h2 _ hu
   rw [bar_list] at h3
   have h4 := findI_none (w := u) (v := q.1.data.toList) (a := a) (by simpa using h3)
   rw [show q.1.data.toList = (brul q).1 from rfl, hs] at h4
   cases h4
theorem row12_some {R : List BRul} {b : Int} {s : ByteArray} (h : rowErr R s b = 0) : ∃ r, rowB R s b = some r ∧ 1 ≤ b ∧ ∀ v, v ∈ wordsR r ↔ Reach (R.map brul) s.data.toList v := by
 obtain ⟨h1, r, hr⟩ := rowErr_zero h
 obtain ⟨_, hb, _, _⟩ := askErr_zero h1
 exact ⟨r, hr, hb, (row_some (by omega) hr).2.2⟩
theorem Row12.keep {R : List BRul} {n : Nat} {b : Int} {s : ByteArray} {L : List ByteArray} (h : Row12 (R.take n) b s L) (hR : R.length ≤ 400) (hs : staleB R n L = false) : Row12 R b s L := by
 have key : ∀ v, Reach (R.map brul) s.data.toList v ↔ Reach ((R.take n).map brul) s.data.toList v := fun v =>
  ⟨fun q => stale_reach h.mem hs q, fun q => q.mono (fun x hx => by rw [brul_take] at hx; exact List.mem_of_mem_take hx)⟩
 refine ⟨?_, fun t => by rw [h.mem, key]⟩
 obtain ⟨h1, r, hr⟩ := rowErr_zero h.err
 obtain ⟨hm, hb, hb2, _⟩ := askErr_zero h1
 obtain ⟨q1, q2, q3⟩ := row_some (by omega) hr
 obtain ⟨r', hr'⟩ := row_of (R := R.map brul) (w := s.data.toList) (b := b.toNat) (by omega) (wordsR r) (by rw [wordsR_length]; exact q2) (fun v hv => (q3 v).2 ((key v).1 hv))
 have ha : askErr (mayB s.data.toList) b R.length = 0 := by
  unfold askErr
  rw [if_pos hm, if_neg (by omega), if_neg (by omega)]
 unfold rowErr
 rw [if_pos ha, if_neg (by unfold rowB; rw [hr']; simp)]
theorem row12_tell {R : List BRul} {b : Int} {s : ByteArray} (h : rowErr R s b = 0) : Row12 R b s (tellL R s b) := by
 obtain ⟨r, hr, hb, hq⟩ := row12_some h
 refine ⟨h, fun t => ?_⟩
 unfold tellL rowD
 rw [if_pos h, hr, ← hq]
 show t ∈ (wordsR r).map bar ↔ _
 rw [List.mem_map]
 constructor
 ·rintro ⟨u, hu, rfl⟩; rw [bar_list]; exact hu
 ·exact fun q => ⟨_, q, rfl⟩
theorem tellB_iff {R : List BRul} {b : Int} {s t : ByteArray} (h : rowErr R s b = 0) : tellB R s t b = true ↔ Reach (R.map brul) s.data.toList t.data.toList := by
 obtain ⟨r, hr, hb, hq⟩ := row12_some h
 unfold tellB rowD
 rw [if_pos h, hr, ← hq, decide_eq_true_iff]; rfl
theorem Row12.tell {R : List BRul} {b : Int} {s t : ByteArray} {L : List ByteArray} (h : Row12 R b s L) : decide (t ∈ L) = tellB R s t b := by
 rw [Bool.eq_iff_iff, decide_eq_true_iff, tellB_iff h.err, h.mem]
/-! backed -/
def crules (c : BCert) : List BRul := c.fr.map fun w => (w, c.sp)
def backE (R : List BRul) (b : Int) (t : ByteArray) : List ByteArray → Bool × Int
 | [] => (true, 0)
 | w :: l => if rowErr R w b = 0 then (if tellB R w t b = true then backE R b t l else (false, 0)) else (false, rowErr R w b)
def backC (R : List BRul) (b : Int) (c : BCert) : Bool × Int := backE R b (atomW c.sg) c.fr
theorem back_yes {R : List BRul} {b : Int} {t : ByteArray} : ∀ {l : List ByteArray}, backE R b t l = (true, 0) ↔ ∀ w ∈ l, rowErr R w b = 0 ∧ tellB R w t b = true
 | [] => by simp [backE]
 | w :: l => by
  unfold backE
  by_cases h1 : rowErr R w b = 0
  ·rw [if_pos h1]
   by_cases h2 : tellB R w t b = true
   ·rw [if_pos h2, back_yes (l := l)]
    simp [h1, h2]
   ·rw [if_neg h2]
    simp [h1, h2]
  ·rw [if_neg h1]
   simp [h1]
/-! the run -/
structure ASt where
 order : List Nat
 rules : List BRul
def stepE (C : List BCert) (b : Int) (s : ASt) (i : Nat) : Except Int ASt :=
 if i ∈ s.order then .ok s else
 match C[i]? with
 | none => .ok s
 | some c => if (backC s.rules b c).2 = 0 then (if (backC s.rules b c).1 = true then .ok ⟨s.order ++ [i], s.rules ++ crules c⟩ else .ok s) else .error (backC s.rules b c).2
def passE (C : List BCert) (b : Int) (s : ASt) : Nat → Except Int ASt
 | 0 => .ok s
 | n + 1 => match passE C b s n with
  | .error e => .error e
  | .ok s' => stepE C b s' n
def runE (C : List BCert) (b : Int) : Nat → ASt → Except Int ASt
 | 0, s => .ok s
 | f + 1, s => match passE C b s C.length with
  | .error e => .error e
  | .ok s' => if s'.order.length = s.order.length then .ok s' else runE C b f s'
def needE (C : List BCert) : Nat := (C.map fun c => c.fr.length).sum
def refE (n : Nat) (C : List BCert) (b : Int) : Int := if C.all certB = true then (if 400 < n + needE C then 3 else if b < 1 ∨ 5000 < b then 1 else 0) else 2
def acceptE (R : List BRul) (C : List BCert) (b : Int) : Except Int ASt :=
 if refE R.length C b = 0 then runE C b (C.length + 1) ⟨[], R⟩ else .error (refE R.length C b)
def rulesOf (C : List BCert) (l : List Nat) : List BRul := l.flatMap fun i => match C[i]? with
 | some c => crules c
 | none => []
theorem rulesOf_snoc {C : List BCert} {l : List Nat} {i : Nat} {c : BCert} (h : C[i]? = some c) : rulesOf C (l ++ [i]) = rulesOf C l ++ crules c := by
 unfold rulesOf
 rw [List.flatMap_append, List.flatMap_cons, List.flatMap_nil, List.append_nil]
 simp only [h]
/-- What holds of a state on the way. -/
structure AInv (R : List BRul) (C : List BCert) (b : Int) (s : ASt) : Prop where
 nd : s.order.Nodup
 lt : ∀ i ∈ s.order, i < C.length
 rules : s.rules = R ++ rulesOf C s.order
 just : ∀ (k : Nat) i c, s.order[k]? = some i → C[i]? = some c → backC (R ++ rulesOf C (s.order.take k)) b c = (true, 0)
theorem AInv.start (R : List BRul) (C : List BCert) (b : Int) : AInv R C b ⟨[], R⟩ := ⟨List.nodup_nil, (fun i h => by cases h), (by simp [rulesOf]), (fun k i c h => by simp at h)⟩
theorem AInv.step {R : List BRul} {C : List BCert} {b : Int} {s s' : ASt} (h : AInv R C b s) {i : Nat} (hs : stepE C b s i = .ok s') : AInv R C b s' ∧ s.order <+: s'.order ∧ (s' = s → i ∉ s.order → ∀ c, C[i]? = some c → backC s.rules b c = (false, 0)) := by
 unfold stepE at hs
 by_cases hi : i ∈ s.order
 ·rw [if_pos hi] at hs; cases hs
  exact ⟨h, List.prefix_refl _, fun _ q => absurd hi q⟩
 ·rw [if_neg hi] at hs
  cases hc : C[i]? with
  | none => rw [hc] at hs; cases hs; exact ⟨h, List.prefix_refl _, fun _ _ c q => by cases q⟩
  | some c =>
   rw [hc] at hs
   simp only at hs
   by_cases h2 : (backC s.rules b c).2 = 0
   ·rw [if_pos h2] at hs
    by_cases h1 : (backC s.rules b c).1 = true
    ·rw [if_pos h1] at hs
     cases hs
     refine ⟨⟨?_, ?_, ?_, ?_⟩, List.prefix_append _ _, fun e => ?_⟩
     ·show (s.order ++ [i]).Nodup
      rw [List.nodup_append]
      exact ⟨h.nd, by simp, fun a ha b hb => by rw [List.mem_singleton] at hb; subst hb; exact fun e => hi (e ▸ ha)⟩
     ·intro j hj
      rcases List.mem_append.1 hj with q | q
      ·exact h.lt j q
      ·rw [List.mem_singleton] at q; subst q; exact (List.getElem?_eq_some_iff.1 hc).1
     ·show s.rules ++ crules c = R ++ rulesOf C (s.order ++ [i])
      rw [rulesOf_snoc hc, h.rules, List.append_assoc]
     ·intro k j d hj hd
      have hj' : (s.order ++ [i])[k]? = some j := hj
      show backC (R ++ rulesOf C ((s.order ++ [i]).take k)) b d = _
      rcases Nat.lt_or_ge k s.order.length with q | q
      ·rw [List.getElem?_append_left q] at hj'
       rw [List.take_append_of_le_length (by omega)]
       exact h.just k j d hj' hd
      ·rw [List.getElem?_append_right q] at hj'
       have hk : k - s.order.length < 1 := (List.getElem?_eq_some_iff.1 hj').1
       have hk2 : k = s.order.length := by omega
       subst hk2
       simp at hj'
       subst hj'
       rw [hc] at hd; cases hd
       rw [List.take_left' rfl, ← h.rules]
       exact Prod.ext h1 h2
     ·have := congrArg (fun s => s.order.length) e
      simp at this
    ·rw [if_neg h1] at hs
     cases hs
     exact ⟨h, List.prefix_refl _, fun _ _ d q => by cases q; exact Prod.ext (by simpa using h1) h2⟩
   ·rw [if_neg h2] at hs; cases hs
theorem AInv.pass {R : List BRul} {C : List BCert} {b : Int} {s : ASt} (h : AInv R C b s) : ∀ (n : Nat) {s' : ASt}, passE C b s n = .ok s' → AInv R C b s' ∧ s.order <+: s'.order ∧ (s'.order.length = s.order.length → s' = s ∧ ∀ i, i < n → i ∉ s.order → ∀ c, C[i]? = some c → backC s.rules b c = (false, 0))
 | 0, s', hs => by cases hs; exact ⟨h, List.prefix_refl _, fun _ => ⟨rfl, fun i hi => by omega⟩⟩
 | n + 1, s', hs => by
  unfold passE at hs
  cases hp : passE C b s n with
  | error e => rw [hp] at hs; cases hs
  | ok u =>
   rw [hp] at hs
   obtain ⟨a1, a2, a3⟩ := h.pass n hp
   obtain ⟨b1, b2, b3⟩ := a1.step hs
   refine ⟨b1, a2.trans b2, fun hl => ?_⟩
   have e1 := a2.length_le
   have e2 := b2.length_le
   obtain ⟨rfl, q⟩ := a3 (by omega)
   have e3 : s' = u := by
    have ho : s'.order = u.order := (b2.eq_of_length (by omega)).symm
    have hr : s'.rules = u.rules := by rw [b1.rules, a1.rules, ho]
    cases s'; cases u; simp at ho hr; simp [ho, hr]
   refine ⟨e3, fun i hi hn c hc => ?_⟩
   by_cases hin : i = n
   ·subst hin; exact b3 e3 hn c hc
   ·exact q i (by omega) hn c hc
/-- What holds of the answer. -/
structure AFin (R : List BRul) (C : List BCert) (b : Int) (s : ASt) : Prop where
 inv : AInv R C b s
 full : ∀ i c, C[i]? = some c → i ∉ s.order → backC s.rules b c = (false, 0)
theorem nodup_len {l : List Nat} (h : l.Nodup) {n : Nat} (hl : ∀ i ∈ l, i < n) : l.length ≤ n := by
 have := nodup_le (l := l) (m := List.range n) h (fun x hx => List.mem_range.2 (hl x hx))
 rwa [List.length_range] at this
theorem run_fin {R : List BRul} {C : List BCert} {b : Int} : ∀ (f : Nat) {s s' : ASt}, AInv R C b s → C.length < f + s.order.length → runE C b f s = .ok s' → AFin R C b s'
 | 0, s, s', h, hf, _ => by have := nodup_len h.nd h.lt; omega
 | f + 1, s, s', h, hf, hs => by
  unfold runE at hs
  cases hp : passE C b s C.length with
  | error e => rw [hp] at hs; cases hs
  | ok u =>
   rw [hp] at hs
   obtain ⟨a1, a2, a3⟩ := h.pass _ hp
   simp only at hs
   by_cases he : u.order.length = s.order.length
   ·rw [if_pos he] at hs
    cases hs
    obtain ⟨rfl, q⟩ := a3 he
    exact ⟨h, fun i c hc hn => q i (List.getElem?_eq_some_iff.1 hc).1 hn c hc⟩
   ·rw [if_neg he] at hs
    have := a2.length_le
    exact run_fin f a1 (by omega) hs
theorem accept_fin {R : List BRul} {C : List BCert} {b : Int} {s : ASt} (h : acceptE R C b = .ok s) : AFin R C b s ∧ refE R.length C b = 0 := by
 unfold acceptE at h
 split at h
 ·exact ⟨run_fin _ (AInv.start R C b) (by simp) h, by assumption⟩
 ·cases h
end Go.Proofs.YthdfplafihmejaaGreat

namespace Go.Proofs.YthdfplafihmejaaGreat
open Go.RowKit

def up (k j : Nat) : Nat := if j < k then j else j + 1
structure Like (k : Nat) (s t : ASt) : Prop where
 rules : t.rules = s.rules
 order : s.order = t.order.map (up k)
end Go.Proofs.YthdfplafihmejaaGreat

namespace Go.Proofs.YthdfplafihmejaaGreat
open Go.RowKit

/-! a turn of places -/
def turnN (n t i : Nat) : Nat := (n - 1 - i + t) % n
def noC : BCert := ⟨0, 0, ⟨#[]⟩, [], 0, 0, 0⟩
def turned (C : List BCert) (t : Nat) : List BCert := (List.range C.length).map fun j => C.getD (turnN C.length t j) noC
theorem accept_ok {R : List BRul} {C : List BCert} {b : Int} {s : ASt} (h : acceptE R C b = .ok s) : C.all certB = true ∧ R.length + needE C ≤ 400 ∧ 1 ≤ b ∧ b ≤ 5000 := by
 have hr := (accept_fin h).2
 unfold refE at hr
 split at hr
 ·split at hr
  ·cases hr
  ·split at hr
   ·cases hr
   ·refine ⟨by assumption, by omega, by omega, by omega⟩
 ·cases hr
theorem rules_len {C : List BCert} : ∀ {l : List Nat}, l.Nodup → (∀ i ∈ l, i < C.length) → (rulesOf C l).length ≤ needE C := by
 have key : ∀ (n : Nat) {l : List Nat} {C : List BCert}, C.length = n → l.Nodup → (∀ i ∈ l, i < C.length) → (rulesOf C l).length ≤ needE C := by
  intro n
  induction n with
  | zero =>
   intro l C hn hl hi
   cases l with
   | nil => exact Nat.zero_le _
   | cons x l => have := hi x List.mem_cons_self; omega
  | succ n ih =>
   intro l C hn hl hi
   obtain ⟨D, c, rfl⟩ : ∃ D c, C = D ++ [c] := ⟨C.dropLast, C.getLast (by intro e; subst e; simp at hn), (List.dropLast_concat_getLast _).symm⟩
   have hD : D.length = n := by simpa using hn
   have hneed : needE (D ++ [c]) = needE D + c.fr.length := by unfold needE; simp
   have h1 : ∀ m : List Nat, (∀ i ∈ m, i < D.length) → rulesOf (D ++ [c]) m = rulesOf D m := by
    intro m hm
    unfold rulesOf
    induction m with
    | nil => rfl
    | cons x m ihm =>
     rw [List.flatMap_cons, List.flatMap_cons, ihm (fun i hi => hm i (List.mem_cons_of_mem _ hi)), List.getElem?_append_left (hm x List.mem_cons_self)]
   have hsum : ∀ m : List Nat, m.Nodup → (rulesOf (D ++ [c]) m).length = (rulesOf (D ++ [c]) (m.erase n)).length + (if n ∈ m then c.fr.length else 0) := by
    intro m hm
    induction m with
    | nil => simp [rulesOf]
    | cons x m ihm =>
     rw [List.nodup_cons] at hm
     by_cases e : x = n
     ·subst e
      rw [List.erase_cons_head, if_pos List.mem_cons_self]
      unfold rulesOf
      rw [List.flatMap_cons, List.length_append, List.getElem?_append_right (by omega), show x - D.length = 0 by omega]
      simp [crules]; omega
     ·rw [List.erase_cons_tail (by simpa using e)]
      have := ihm hm.2
      have e2 : (n ∈ x :: m) ↔ n ∈ m := by simp [Ne.symm e]
      unfold rulesOf at this ⊢
      rw [List.flatMap_cons, List.flatMap_cons, List.length_append, List.length_append, this]
      simp only [e2]; omega
   rw [hsum l hl, hneed]
   have h2 : ∀ i ∈ l.erase n, i < D.length := fun i q => by
    have q1 := hi i (List.mem_of_mem_erase q)
    have q2 : i ≠ n := fun e => by
     subst e
     exact (List.Nodup.not_mem_erase hl) q
    rw [List.length_append, List.length_singleton] at q1
    omega
   rw [h1 _ h2]
   have := ih (C := D) hD (hl.erase n) h2
   split <;> omega
 exact fun {l} h1 h2 => key _ rfl h1 h2
end Go.Proofs.YthdfplafihmejaaGreat
