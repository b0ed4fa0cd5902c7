/-
  AclGrants, plain: what fits, and what is asked, by words stopped and over.
-/
import Derived.Test.YtbjdndialiddpaaAAsk
namespace Go.Proofs.Ytbjdndialiddpaa
open Go.RowKit Go.Maps

/-- Is a word over? Is one stopped? -/
def overB (R : List BRul) (b : Int) (s : List ByteArray) : Bool := s.any fun x => decide (rowErr R x b ≠ 0)
def stopB (R : List BRul) (b : Int) (c s : List ByteArray) : Bool := s.any fun x => !metB R b c x
theorem over_stop {R : List BRul} {b : Int} {c : List ByteArray} {x : ByteArray} (h : rowErr R x b ≠ 0) : metB R b c x = false := by
  unfold metB tellL
  rw [if_neg h]; rfl
theorem stop_of_over {R : List BRul} {b : Int} {c s : List ByteArray} (h : overB R b s = true) : stopB R b c s = true := by
  unfold overB at h
  unfold stopB
  rw [List.any_eq_true] at h ⊢
  obtain ⟨x, hx, h2⟩ := h
  exact ⟨x, hx, by rw [over_stop (of_decide_eq_true h2)]; rfl⟩
theorem fitGo_eq {R : List BRul} {b : Int} {c : List ByteArray} : ∀ (s : List ByteArray) (a : Int), fitGo R b c a s = if overB R b s = true then 2 else if stopB R b c s = true then 0 else a
  | [], a => by simp [fitGo, overB, stopB]
  | x :: r, a => by
    rw [fitGo]
    by_cases h : rowErr R x b = 0
    · rw [if_neg (fun q => q h), fitGo_eq r]
      have h1 : overB R b (x :: r) = overB R b r := by simp [overB, h]
      rw [h1]
      cases hm : metB R b c x with
      | true =>
        have h2 : stopB R b c (x :: r) = stopB R b c r := by simp [stopB, hm]
        rw [h2]; simp
      | false =>
        have h2 : stopB R b c (x :: r) = true := by simp [stopB, hm]
        rw [h2]; simp
    · rw [if_pos h]
      have h1 : overB R b (x :: r) = true := by simp [overB, h]
      rw [h1]; simp
theorem fitV_eq (R : List BRul) (b : Int) (c s : List ByteArray) : fitV R b c s = if overB R b s = true then 2 else if stopB R b c s = true then 0 else 1 := fitGo_eq s 1
theorem fitV_one {R : List BRul} {b : Int} {c s : List ByteArray} : fitV R b c s = 1 ↔ stopB R b c s = false := by
  rw [fitV_eq]
  cases ho : overB R b s with
  | true => rw [stop_of_over ho]; simp
  | false => cases stopB R b c s <;> simp
theorem fitV_two {R : List BRul} {b : Int} {c s : List ByteArray} : fitV R b c s = 2 ↔ overB R b s = true := by
  rw [fitV_eq]
  cases overB R b s with
  | true => simp
  | false => cases stopB R b c s <;> simp
theorem askGo_yes {R : List BRul} {b : Int} {c : List ByteArray} {op : Int} : ∀ (L : List BEnt) (i : Nat) (a : Int), a ≠ 1 → (askGo R b c op i a L).1 = 1 → ∃ j x, L[j]? = some x ∧ (askGo R b c op i a L).2 = ((i + j : Nat) : Int) ∧ x.1 = op ∧ fitV R b c x.2 = 1
  | [], i, a, ha, h => by simp [askGo] at h; exact (ha h).elim
  | y :: r, i, a, ha, h => by
    rw [askGo] at h ⊢
    by_cases h1 : y.1 = op
    · rw [if_pos h1] at h ⊢
      by_cases h2 : fitV R b c y.2 = 1
      · rw [if_pos h2]
        exact ⟨0, y, rfl, rfl, h1, h2⟩
      · rw [if_neg h2] at h ⊢
        obtain ⟨j, x, q1, q2, q3⟩ := askGo_yes r (i + 1) _ (by split <;> omega) h
        exact ⟨j + 1, x, q1, by rw [q2]; congr 1; omega, q3⟩
    · rw [if_neg h1] at h ⊢
      obtain ⟨j, x, q1, q2, q3⟩ := askGo_yes r (i + 1) a ha h
      exact ⟨j + 1, x, q1, by rw [q2]; congr 1; omega, q3⟩
/-- Is a word of an entry with the operation over? -/
def oversB (R : List BRul) (b : Int) (op : Int) (L : List BEnt) : Bool := L.any fun x => decide (x.1 = op) && overB R b x.2
theorem askGo_no {R : List BRul} {b : Int} {c : List ByteArray} {op : Int} : ∀ (L : List BEnt) (i : Nat) (a : Int), (askGo R b c op i a L).1 ≠ 1 → (askGo R b c op i a L).2 = -1 ∧ (∀ x ∈ L, x.1 = op → stopB R b c x.2 = true) ∧ (askGo R b c op i a L).1 = if oversB R b op L = true then 2 else a
  | [], i, a, h => by simp [askGo, oversB]
  | y :: r, i, a, h => by
    rw [askGo] at h ⊢
    by_cases h1 : y.1 = op
    · rw [if_pos h1] at h ⊢
      by_cases h2 : fitV R b c y.2 = 1
      · rw [if_pos h2] at h; exact (h rfl).elim
      · rw [if_neg h2] at h ⊢
        obtain ⟨q1, q2, q3⟩ := askGo_no r (i + 1) _ h
        refine ⟨q1, fun x hx hop => ?_, ?_⟩
        · rcases List.mem_cons.1 hx with rfl | hx
          · rw [← Bool.not_eq_false]; exact fun e => h2 (fitV_one.2 e)
          · exact q2 x hx hop
        · rw [q3]
          have h3 : oversB R b op (y :: r) = (overB R b y.2 || oversB R b op r) := by simp [oversB, h1]
          rw [h3]
          cases ho : overB R b y.2 with
          | true => rw [if_pos (fitV_two.2 ho)]; simp
          | false =>
            have hne : ¬ fitV R b c y.2 = 2 := fun e => by rw [fitV_two.1 e] at ho; cases ho
            rw [if_neg hne]; simp
    · rw [if_neg h1] at h ⊢
      obtain ⟨q1, q2, q3⟩ := askGo_no r (i + 1) a h
      refine ⟨q1, fun x hx hop => ?_, ?_⟩
      · rcases List.mem_cons.1 hx with rfl | hx
        · exact (h1 hop).elim
        · exact q2 x hx hop
      · rw [q3]
        have h3 : oversB R b op (y :: r) = oversB R b op r := by simp [oversB, h1]
        rw [h3]
end Go.Proofs.Ytbjdndialiddpaa
