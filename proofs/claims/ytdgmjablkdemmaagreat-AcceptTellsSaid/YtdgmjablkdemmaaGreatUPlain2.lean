/-
  What is accepted without one that isn't, in plain Lean.
-/
import Derived.Test.YtdgmjablkdemmaaGreatUPlain
namespace Go.Proofs.YtdgmjablkdemmaaGreat
open Go.RowKit

theorem run_fuel {R : List BRul} {C : List BCert} {b : Int} : ∀ (f g : Nat) {s : ASt}, AInv R C b s → C.length < f + s.order.length → C.length < g + s.order.length → runE C b f s = runE C b g s
  | 0, _, s, h, hf, _ => by have := nodup_len h.nd h.lt; omega
  | _ + 1, 0, s, h, _, hg => by have := nodup_len h.nd h.lt; omega
  | f + 1, g + 1, s, h, hf, hg => by
    unfold runE
    cases hp : passE C b s C.length with
    | error e => rfl
    | ok u =>
      simp only
      obtain ⟨a1, a2, a3⟩ := h.pass _ hp
      by_cases he : u.order.length = s.order.length
      · rw [if_pos he, if_pos he]
      · rw [if_neg he, if_neg he]
        have := a2.length_le
        exact run_fuel f g a1 (by omega) (by omega)
def up (k j : Nat) : Nat := if j < k then j else j + 1
theorem up_inj {k i j : Nat} (h : up k i = up k j) : i = j := by
  unfold up at h
  split at h <;> split at h <;> omega
theorem up_get (C : List BCert) (k j : Nat) : (C.eraseIdx k)[j]? = C[up k j]? := by
  unfold up
  by_cases h : j < k
  · rw [if_pos h, List.getElem?_eraseIdx_of_lt h]
  · rw [if_neg h, List.getElem?_eraseIdx_of_ge (by omega)]
theorem mem_up {k j : Nat} {l : List Nat} : up k j ∈ l.map (up k) ↔ j ∈ l := by
  rw [List.mem_map]
  exact ⟨fun ⟨x, hx, e⟩ => up_inj e ▸ hx, fun h => ⟨j, h, rfl⟩⟩
structure Like (k : Nat) (s t : ASt) : Prop where
  rules : t.rules = s.rules
  order : s.order = t.order.map (up k)
theorem step_rest {C : List BCert} {k : Nat} {b : Int} {s t s' : ASt} {j : Nat} (h : Like k s t) (hs : stepE C b s (up k j) = .ok s') : ∃ t', stepE (C.eraseIdx k) b t j = .ok t' ∧ Like k s' t' := by
  unfold stepE at hs ⊢
  have hm : up k j ∈ s.order ↔ j ∈ t.order := by rw [h.order, mem_up]
  by_cases hi : j ∈ t.order
  · rw [if_pos (hm.2 hi)] at hs; cases hs
    rw [if_pos hi]; exact ⟨_, rfl, h⟩
  · rw [if_neg (fun q => hi (hm.1 q))] at hs
    rw [if_neg hi, up_get, h.rules]
    cases hc : C[up k j]? with
    | none => rw [hc] at hs; cases hs; exact ⟨_, rfl, h⟩
    | some c =>
      rw [hc] at hs
      simp only at hs ⊢
      by_cases h2 : (backC s.rules b c).2 = 0
      · rw [if_pos h2] at hs ⊢
        by_cases h1 : (backC s.rules b c).1 = true
        · rw [if_pos h1] at hs ⊢
          cases hs
          exact ⟨_, rfl, rfl, by simp [h.order]⟩
        · rw [if_neg h1] at hs ⊢
          cases hs
          exact ⟨_, rfl, h⟩
      · rw [if_neg h2] at hs; cases hs
theorem pass_rest {R : List BRul} {C : List BCert} {k : Nat} {b : Int} {s t : ASt} (hA : AInv R C b s) (h : Like k s t) : ∀ (n : Nat) {s' : ASt}, passE C b s n = .ok s' → k ∉ s'.order → ∃ t', passE (C.eraseIdx k) b t (if n ≤ k then n else n - 1) = .ok t' ∧ Like k s' t'
  | 0, s', hs, hk => by cases hs; exact ⟨t, by simp [passE], h⟩
  | n + 1, s', hs, hk => by
    unfold passE at hs
    cases hp : passE C b s n with
    | error e => rw [hp] at hs; cases hs
    | ok u =>
      rw [hp] at hs
      simp only at hs
      obtain ⟨a1, _, _⟩ := hA.pass n hp
      obtain ⟨b1, b2, b3⟩ := a1.step hs
      have hku : k ∉ u.order := fun q => hk (b2.subset q)
      obtain ⟨t', q1, q2⟩ := pass_rest hA h n hp hku
      rcases Nat.lt_trichotomy n k with c | c | c
      · rw [if_pos (by omega)] at q1 ⊢
        unfold passE
        rw [q1]
        simp only
        have : up k n = n := by unfold up; rw [if_pos c]
        rw [← this] at hs
        exact step_rest q2 hs
      · subst c
        rw [if_pos (Nat.le_refl _)] at q1
        rw [if_neg (by omega), Nat.add_sub_cancel]
        refine ⟨t', q1, ?_⟩
        have : s' = u := by
          unfold stepE at hs
          rw [if_neg hku] at hs
          cases hc : C[n]? with
          | none => rw [hc] at hs; cases hs; rfl
          | some c =>
            rw [hc] at hs
            simp only at hs
            split at hs
            · split at hs
              · cases hs
                exact absurd (List.mem_append_right _ (List.mem_singleton.2 rfl)) hk
              · cases hs; rfl
            · cases hs
        rw [this]; exact q2
      · rw [if_neg (by omega)] at q1 ⊢
        rw [Nat.add_sub_cancel]
        obtain ⟨m, rfl⟩ : ∃ m, n = m + 1 := ⟨n - 1, by omega⟩
        rw [Nat.add_sub_cancel] at q1
        unfold passE
        rw [q1]
        simp only
        have : up k m = m + 1 := by unfold up; rw [if_neg (by omega)]
        rw [← this] at hs
        exact step_rest q2 hs
theorem run_rest {R : List BRul} {C : List BCert} {k : Nat} {b : Int} (hk : k < C.length) : ∀ (f : Nat) {s t s' : ASt}, AInv R C b s → Like k s t → runE C b f s = .ok s' → k ∉ s'.order → ∃ t', runE (C.eraseIdx k) b f t = .ok t' ∧ Like k s' t'
  | 0, s, t, s', _, h, hs, _ => by cases hs; exact ⟨t, rfl, h⟩
  | f + 1, s, t, s', hA, h, hs, hn => by
    unfold runE at hs
    cases hp : passE C b s C.length with
    | error e => rw [hp] at hs; cases hs
    | ok u =>
      rw [hp] at hs
      simp only at hs
      obtain ⟨a1, _, _⟩ := hA.pass _ hp
      have hlen : (C.eraseIdx k).length = C.length - 1 := List.length_eraseIdx_of_lt hk
      have he : ∀ {x y : ASt}, Like k x y → y.order.length = x.order.length := fun q => by rw [q.order, List.length_map]
      by_cases hq : u.order.length = s.order.length
      · rw [if_pos hq] at hs
        cases hs
        obtain ⟨t', q1, q2⟩ := pass_rest hA h C.length hp hn
        rw [if_neg (by omega)] at q1
        refine ⟨t', ?_, q2⟩
        unfold runE
        rw [hlen, q1]
        simp only
        rw [if_pos (by rw [he q2, he h, hq])]
      · rw [if_neg hq] at hs
        have hku : k ∉ u.order := fun q => hn (run_mem f a1 hs q)
        obtain ⟨t', q1, q2⟩ := pass_rest hA h C.length hp hku
        rw [if_neg (by omega)] at q1
        obtain ⟨t2, r1, r2⟩ := run_rest hk f a1 q2 hs hn
        refine ⟨t2, ?_, r2⟩
        unfold runE
        rw [hlen, q1]
        simp only
        rw [if_neg (by rw [he q2, he h]; exact hq)]
        exact r1
where
  run_mem {R : List BRul} {C : List BCert} {b : Int} {k : Nat} : ∀ (f : Nat) {s s' : ASt}, AInv R C b s → runE C b f s = .ok s' → k ∈ s.order → k ∈ s'.order
  | 0, s, s', _, hs, h => by cases hs; exact h
  | f + 1, s, s', hA, hs, h => by
    unfold runE at hs
    cases hp : passE C b s C.length with
    | error e => rw [hp] at hs; cases hs
    | ok u =>
      rw [hp] at hs
      simp only at hs
      obtain ⟨a1, a2, _⟩ := hA.pass _ hp
      split at hs
      · cases hs; exact a2.subset h
      · exact run_mem f a1 hs (a2.subset h)
theorem need_erase : ∀ (C : List BCert) (k : Nat), needE (C.eraseIdx k) ≤ needE C
  | [], k => by simp [needE]
  | c :: C, 0 => by simp [needE]
  | c :: C, k + 1 => by
    have := need_erase C k
    unfold needE at *
    rw [List.eraseIdx_cons_succ, List.map_cons, List.map_cons, List.sum_cons, List.sum_cons]
    omega
/-- Who isn't accepted changes nothing by going. -/
theorem accept_rest {R : List BRul} {C : List BCert} {k : Nat} {b : Int} {s : ASt} (hk : k < C.length) (h : acceptE R C b = .ok s) (hn : k ∉ s.order) : ∃ t, acceptE R (C.eraseIdx k) b = .ok t ∧ t.rules = s.rules ∧ t.order.length = s.order.length := by
  have hr : refE R.length C b = 0 := (accept_fin h).2
  unfold acceptE at h
  rw [if_pos hr] at h
  obtain ⟨t, q1, q2⟩ := run_rest hk _ (AInv.start R C b) (t := ⟨[], R⟩) ⟨rfl, rfl⟩ h hn
  have hr' : refE R.length (C.eraseIdx k) b = 0 := by
    unfold refE at hr ⊢
    have hall : C.all certB = true := by
      by_cases q : C.all certB = true
      · exact q
      · rw [if_neg q] at hr; cases hr
    rw [if_pos hall] at hr
    have hall' : (C.eraseIdx k).all certB = true := by
      rw [List.all_eq_true] at hall ⊢
      exact fun x hx => hall x (List.mem_of_mem_eraseIdx hx)
    rw [if_pos hall']
    have := need_erase C k
    split at hr
    · cases hr
    · rw [if_neg (by omega)]
      exact hr
  refine ⟨t, ?_, q2.rules, by rw [q2.order, List.length_map]⟩
  unfold acceptE
  rw [if_pos hr', ← q1]
  have hlen : (C.eraseIdx k).length = C.length - 1 := List.length_eraseIdx_of_lt hk
  exact run_fuel _ _ (AInv.start R (C.eraseIdx k) b) (by simp) (by simp; omega)
end Go.Proofs.YtdgmjablkdemmaaGreat
