/-
  What the laws of what is accepted lean on, in plain Lean.
-/
import Derived.Test.YtdgmjablkdemmaaGreatUPlain2
namespace Go.Proofs.YtdgmjablkdemmaaGreat
open Go.RowKit

/-! a turn of places -/
def turnN (n t i : Nat) : Nat := (n - 1 - i + t) % n
theorem turn_lt {n t i : Nat} (h : 0 < n) : turnN n t i < n := Nat.mod_lt _ h
theorem turn_turn {n t i : Nat} (h : i < n) : turnN n t (turnN n t i) = i := by
  unfold turnN
  have hd := Nat.div_add_mod (n - 1 - i + t) n
  have hm := Nat.mod_lt (n - 1 - i + t) (show 0 < n by omega)
  generalize (n - 1 - i + t) % n = m at *
  generalize (n - 1 - i + t) / n = q at *
  have e : n - 1 - m + t = i + n * q := by omega
  rw [e, Nat.add_mul_mod_self_left, Nat.mod_eq_of_lt h]
def noC : BCert := ⟨0, 0, ⟨#[]⟩, [], 0, 0, 0⟩
def turned (C : List BCert) (t : Nat) : List BCert := (List.range C.length).map fun j => C.getD (turnN C.length t j) noC
theorem turned_length (C : List BCert) (t : Nat) : (turned C t).length = C.length := by unfold turned; rw [List.length_map, List.length_range]
theorem turned_at {C : List BCert} {t j : Nat} (h : j < C.length) : (turned C t)[j]? = C[turnN C.length t j]? := by
  unfold turned
  rw [List.getElem?_map, List.getElem?_range h]
  have := turn_lt (t := t) (i := j) (show 0 < C.length by omega)
  rw [Option.map_some, List.getD_eq_getElem?_getD, List.getElem?_eq_getElem this]; rfl
theorem turned_get {C : List BCert} {t i : Nat} {c : BCert} (h : C[i]? = some c) : (turned C t)[turnN C.length t i]? = some c := by
  have hi := (List.getElem?_eq_some_iff.1 h).1
  rw [turned_at (turn_lt (by omega)), turn_turn hi, h]
theorem turned_back {C : List BCert} {t j : Nat} {c : BCert} (h : (turned C t)[j]? = some c) : C[turnN C.length t j]? = some c := by
  have hj := (List.getElem?_eq_some_iff.1 h).1
  rw [turned_length] at hj
  rw [← turned_at hj]; exact h
theorem nodup_map_le {l m : List Nat} (φ : Nat → Nat) (hl : l.Nodup) (hi : ∀ a ∈ l, ∀ b ∈ l, φ a = φ b → a = b) (hm : ∀ a ∈ l, φ a ∈ m) : l.length ≤ m.length := by
  have h : (l.map φ).Nodup := by
    clear hm
    induction l with
    | nil => exact List.nodup_nil
    | cons x l ih =>
      rw [List.nodup_cons] at hl
      rw [List.map_cons, List.nodup_cons]
      refine ⟨fun q => ?_, ih hl.2 (fun a ha b hb => hi a (List.mem_cons_of_mem _ ha) b (List.mem_cons_of_mem _ hb))⟩
      obtain ⟨y, hy, e⟩ := List.mem_map.1 q
      have := hi y (List.mem_cons_of_mem _ hy) x List.mem_cons_self e
      exact hl.1 (this ▸ hy)
  have := nodup_le (l := l.map φ) (m := m) h (fun x hx => by
    obtain ⟨a, ha, rfl⟩ := List.mem_map.1 hx
    exact hm a ha)
  rwa [List.length_map] at this
theorem order_same {R R' : List BRul} {C : List BCert} {t : Nat} {b : Int} {s s' : ASt} (h : AFin R C b s) (h' : AFin R' (turned C t) b s') (hR : ∀ r, r ∈ R ↔ r ∈ R') :
    s.order.length = s'.order.length ∧ ∀ i, i < C.length → decide (i ∈ s.order) = decide (turnN C.length t i ∈ s'.order) := by
  have m1 := fin_more h h' (fun r hr => (hR r).1 hr) (turnN C.length t) (fun i c hc => turned_get hc)
  have m2 := fin_more h' h (fun r hr => (hR r).2 hr) (turnN C.length t) (fun i c hc => turned_back hc)
  have l1 : ∀ i ∈ s.order, i < C.length := h.inv.lt
  have l2 : ∀ i ∈ s'.order, i < C.length := fun i hi => by have := h'.inv.lt i hi; rwa [turned_length] at this
  have inj : ∀ a, a < C.length → ∀ b, b < C.length → turnN C.length t a = turnN C.length t b → a = b := fun a ha b hb e => by
    rw [← turn_turn (t := t) ha, e, turn_turn hb]
  refine ⟨Nat.le_antisymm (nodup_map_le _ h.inv.nd (fun a ha b hb => inj a (l1 a ha) b (l1 b hb)) m1) (nodup_map_le _ h'.inv.nd (fun a ha b hb => inj a (l2 a ha) b (l2 b hb)) m2), fun i hi => ?_⟩
  rw [Bool.eq_iff_iff, decide_eq_true_iff, decide_eq_true_iff]
  exact ⟨m1 i, fun q => by have := m2 _ q; rwa [turn_turn hi] at this⟩
theorem more_all {R M : List BRul} {C : List BCert} {o : BCert} {b : Int} {s s' : ASt} (h : AFin R C b s) (h' : AFin (R ++ M) (C ++ [o]) b s') : ∀ i ∈ s.order, i ∈ s'.order :=
  fin_more h h' (fun r hr => List.mem_append_left _ hr) id (fun i c hc => by
    show (C ++ [o])[i]? = some c
    rw [List.getElem?_append_left (List.getElem?_eq_some_iff.1 hc).1, hc])
theorem snoc_get {C : List BCert} {o c : BCert} {i : Nat} (h : (C ++ [o])[i]? = some c) : C[i]? = some c ∨ (i = C.length ∧ c = o) := by
  rcases Nat.lt_or_ge i C.length with q | q
  · rw [List.getElem?_append_left q] at h; exact .inl h
  · rw [List.getElem?_append_right q] at h
    have hi : i - C.length < 1 := (List.getElem?_eq_some_iff.1 h).1
    have hi2 : i = C.length := by omega
    subst hi2
    simp at h
    exact .inr ⟨rfl, h.symm⟩
theorem twice_all {R : List BRul} {C : List BCert} {k : Nat} {o : BCert} {b : Int} {s s' : ASt} (hk : C[k]? = some o) (h : AFin R C b s) (h' : AFin R (C ++ [o]) b s') : decide (k ∈ s.order) = decide (k ∈ s'.order) ∧ decide (k ∈ s'.order) = decide (C.length ∈ s'.order) := by
  have hkl := (List.getElem?_eq_some_iff.1 hk).1
  have up1 : ∀ {i c}, C[i]? = some c → (C ++ [o])[i]? = some c := fun {i c} hc => by
    rw [List.getElem?_append_left (List.getElem?_eq_some_iff.1 hc).1, hc]
  have last : (C ++ [o])[C.length]? = some o := by rw [List.getElem?_append_right (Nat.le_refl _)]; simp
  have m1 := fin_more h h' (fun r hr => hr) id (fun i c hc => up1 hc)
  have m2 := fin_more h' h (fun r hr => hr) (fun i => if i = C.length then k else i) (fun i c hc => by
    rcases snoc_get hc with q | ⟨q, rfl⟩
    · have := (List.getElem?_eq_some_iff.1 q).1
      rw [if_neg (by omega)]; exact q
    · rw [if_pos q]; exact hk)
  have m3 := fin_more h' h' (fun r hr => hr) (fun i => if i = C.length then k else if i = k then C.length else i) (fun i c hc => by
    rcases snoc_get hc with q | ⟨q, rfl⟩
    · have hil := (List.getElem?_eq_some_iff.1 q).1
      rw [if_neg (by omega)]
      by_cases e : i = k
      · subst e
        rw [if_pos rfl, last]
        rw [hk] at q
        exact q
      · rw [if_neg e]; exact up1 q
    · rw [if_pos q]; exact up1 hk)
  constructor
  · rw [Bool.eq_iff_iff, decide_eq_true_iff, decide_eq_true_iff]
    refine ⟨m1 k, fun q => ?_⟩
    have this : (if k = C.length then k else k) ∈ s.order := m2 k q
    rwa [if_neg (by omega)] at this
  · rw [Bool.eq_iff_iff, decide_eq_true_iff, decide_eq_true_iff]
    refine ⟨fun q => ?_, fun q => ?_⟩
    · have this : (if k = C.length then k else if k = k then C.length else k) ∈ s'.order := m3 k q
      rwa [if_neg (by omega), if_pos rfl] at this
    · have this : (if C.length = C.length then k else if C.length = k then C.length else C.length) ∈ s'.order := m3 _ q
      rwa [if_pos rfl] at this
theorem accept_ok {R : List BRul} {C : List BCert} {b : Int} {s : ASt} (h : acceptE R C b = .ok s) : C.all certB = true ∧ R.length + needE C ≤ 400 ∧ 1 ≤ b ∧ b ≤ 5000 := by
  have hr := (accept_fin h).2
  unfold refE at hr
  split at hr
  · split at hr
    · cases hr
    · split at hr
      · cases hr
      · refine ⟨by assumption, by omega, by omega, by omega⟩
  · cases hr
theorem rules_len {C : List BCert} : ∀ {l : List Nat}, l.Nodup → (∀ i ∈ l, i < C.length) → (rulesOf C l).length ≤ needE C := by
  have key : ∀ (n : Nat) {l : List Nat} {C : List BCert}, C.length = n → l.Nodup → (∀ i ∈ l, i < C.length) → (rulesOf C l).length ≤ needE C := by
    intro n
    induction n with
    | zero =>
      intro l C hn hl hi
      cases l with
      | nil => exact Nat.zero_le _
      | cons x l => have := hi x List.mem_cons_self; omega
    | succ n ih =>
      intro l C hn hl hi
      obtain ⟨D, c, rfl⟩ : ∃ D c, C = D ++ [c] := ⟨C.dropLast, C.getLast (by intro e; subst e; simp at hn), (List.dropLast_concat_getLast _).symm⟩
      have hD : D.length = n := by simpa using hn
      have hneed : needE (D ++ [c]) = needE D + c.fr.length := by unfold needE; simp
      have h1 : ∀ m : List Nat, (∀ i ∈ m, i < D.length) → rulesOf (D ++ [c]) m = rulesOf D m := by
        intro m hm
        unfold rulesOf
        induction m with
        | nil => rfl
        | cons x m ihm =>
          rw [List.flatMap_cons, List.flatMap_cons, ihm (fun i hi => hm i (List.mem_cons_of_mem _ hi)), List.getElem?_append_left (hm x List.mem_cons_self)]
      have hsum : ∀ m : List Nat, m.Nodup → (rulesOf (D ++ [c]) m).length = (rulesOf (D ++ [c]) (m.erase n)).length + (if n ∈ m then c.fr.length else 0) := by
        intro m hm
        induction m with
        | nil => simp [rulesOf]
        | cons x m ihm =>
          rw [List.nodup_cons] at hm
          by_cases e : x = n
          · subst e
            rw [List.erase_cons_head, if_pos List.mem_cons_self]
            unfold rulesOf
            rw [List.flatMap_cons, List.length_append, List.getElem?_append_right (by omega), show x - D.length = 0 by omega]
            simp [crules]; omega
          · rw [List.erase_cons_tail (by simpa using e)]
            have := ihm hm.2
            have e2 : (n ∈ x :: m) ↔ n ∈ m := by simp [Ne.symm e]
            unfold rulesOf at this ⊢
            rw [List.flatMap_cons, List.flatMap_cons, List.length_append, List.length_append, this]
            simp only [e2]; omega
      rw [hsum l hl, hneed]
      have h2 : ∀ i ∈ l.erase n, i < D.length := fun i q => by
        have q1 := hi i (List.mem_of_mem_erase q)
        have q2 : i ≠ n := fun e => by
          subst e
          exact (List.Nodup.not_mem_erase hl) q
        rw [List.length_append, List.length_singleton] at q1
        omega
      rw [h1 _ h2]
      have := ih (C := D) hD (hl.erase n) h2
      split <;> omega
  exact fun {l} h1 h2 => key _ rfl h1 h2
end Go.Proofs.YtdgmjablkdemmaaGreat
