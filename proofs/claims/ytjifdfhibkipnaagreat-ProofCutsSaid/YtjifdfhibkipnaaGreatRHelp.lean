/-
  Reach: what the laws of many layers lean on.
-/
import Derived.Test.YtjifdfhibkipnaaGreatRArgs
namespace Go.Proofs.YtjifdfhibkipnaaGreat
open Go.RowKit Go.Maps
theorem RulesAt.below {w w1 : World} {v : Value} {R : List BRul} {B : Nat} (h : RulesAt w v (· < w.heap.size) R) (k : Chg (fun _ => False) w w1) (hB : w.heap.size ≤ B) : RulesAt w1 v (· < B) R :=
  (h.chg k (fun _ _ e => e)).imp (fun _ hx => Nat.lt_of_lt_of_le hx hB)
theorem asks_of {w w1 : World} {v : Value} {R : List BRul} {s : ByteArray} (h : RulesAt w v (· < w.heap.size) R) (k : Chg (fun _ => False) w w1) (hR : (R.length ≤ 30 ∧ ∀ r ∈ R, r.1.size ≤ 100 ∧ r.2.size ≤ 100) ∨ 400 < R.length) (hs : s.size ≤ maxLen) : Asks w1 v R s :=
  ⟨rules_up h k, hR.imp (fun q => ⟨by omega, fun r hr => by have := (q.2 r hr).1; omega⟩) id, hs⟩
theorem rw_words (r : List Ent) : rwCells r = wcells ((wordsR r).map bar) := by unfold rwCells wcells wordsR; rw [List.map_map, List.map_map]; rfl
theorem take_mem_succ {l : List Wd} {k : Nat} {x t : Wd} (hx : l[k]? = some x) : t ∈ l.take (k + 1) ↔ t ∈ l.take k ∨ x = t := by
  rw [List.take_add_one, hx, List.mem_append]
  simp [eq_comm]
theorem wordsR_get {r : List Ent} {k : Nat} (hk : k < r.length) : (wordsR r)[k]? = some (wordAt r k) := by
  unfold wordsR wordAt
  rw [List.getElem?_map, List.getD_eq_getElem?_getD, List.getElem?_eq_getElem hk]; rfl
theorem wordAt_idx {r : List Ent} {t : Wd} (h : t ∈ wordsR r) : (wordsR r).idxOf t < r.length ∧ wordAt r ((wordsR r).idxOf t) = t := by
  have hl : (wordsR r).idxOf t < (wordsR r).length := List.idxOf_lt_length_of_mem h
  refine ⟨by rw [← wordsR_length]; exact hl, ?_⟩
  have h1 := wordsR_get (r := r) (k := (wordsR r).idxOf t) (by rw [← wordsR_length]; exact hl)
  rw [List.getElem?_eq_getElem hl, List.getElem_idxOf hl] at h1
  exact (Option.some.inj h1).symm
theorem own_word {w : World} {base : Nat} {a : Option Addr} {n c : Nat} {r : List Ent} (ho : w.ownsRow base 24 1 (.slice a n c) r.length (rwCells r)) {i : Nat} (hi : i < r.length) : ∃ g, a = some ⟨g, 0, none⟩ ∧ w.cell? ⟨g, i, none⟩ = some (.string (bar (wordAt r i))) := by
  obtain ⟨a', c', e⟩ := own_shape ho
  cases e
  obtain ⟨g, rfl⟩ := own_some ho (by omega)
  exact ⟨g, rfl, by rw [ho.cellAt i (by omega), rw_get hi]⟩
theorem wlen_of {u : Wd} (h : mayB u = true) : (bar u).size ≤ 16 := (may_size (a := bar u) (by rw [bar_list]; exact h)).1
/-! what reach tells, in one word each -/
def rowD (R : List BRul) (s : ByteArray) (b : Int) : List Ent := (rowB R s b).getD []
def tellL (R : List BRul) (s : ByteArray) (b : Int) : List ByteArray := if rowErr R s b = 0 then (wordsR (rowD R s b)).map bar else []
def TellAll (w : World) (k : Int) (L : List ByteArray) (e : Ending) (w' : World) : Prop := ∃ va, e = .returned (.tuple #[va, .int .i64 k]) ∧ WordsAt w' va (fun x => w.heap.size ≤ x ∧ x < w'.heap.size) L ∧ Chg (fun _ => False) w w'
theorem wordsAt_nil (w : World) (G : Nat → Prop) : WordsAt w (.slice none 0 0) G [] := ⟨none, 0, rfl, by simp, fun j x hj => by simp at hj⟩
theorem wordsAt_row {w : World} {base : Nat} {v : Value} {r : List Ent} (h : w.ownsRow base 24 1 v r.length (rwCells r)) (hs : ∀ u ∈ wordsR r, (bar u).size ≤ 400) : WordsAt w v (fun x => base ≤ x ∧ x < w.heap.size) ((wordsR r).map bar) := by
  have h2 : w.ownsRow base 24 1 v ((wordsR r).map bar).length (wcells ((wordsR r).map bar)) := by rw [List.length_map, wordsR_length, ← rw_words]; exact h
  obtain ⟨a, cap, rfl, h3, h4⟩ := own_get h2
  refine ⟨a, cap, rfl, h3, fun j x hj => ?_⟩
  obtain ⟨g, rfl, hg, c⟩ := h4 j (.string x) (by unfold wcells; rw [List.getElem?_map, hj]; rfl)
  refine ⟨g, 0, rfl, ⟨hg, World.block_lt_of_cell? w _ c⟩, by rw [Nat.zero_add]; exact c, ?_⟩
  have hx := List.mem_of_getElem? hj
  rw [List.mem_map] at hx
  obtain ⟨u, hu, rfl⟩ := hx
  have := hs u hu
  unfold maxLen; omega
theorem row_sizes {R : List BRul} {s : ByteArray} {b : Int} {r : List Ent} (h : rowErr R s b = 0) (hr : rowB R s b = some r) : (∀ u ∈ wordsR r, mayB u = true ∧ (bar u).size ≤ 16) ∧ r.length ≤ 5000 ∧ 1 ≤ b := by
  obtain ⟨hask, _⟩ := rowErr_zero h
  obtain ⟨m1, m2, m3, m4⟩ := askErr_zero hask
  obtain ⟨s1, s2, s3⟩ := row_some (by omega) hr
  exact ⟨fun u hu => ⟨(reach_may m1 ((s3 u).1 hu)).1, wlen_of (reach_may m1 ((s3 u).1 hu)).1⟩, by omega, m2⟩
section
variable {w : World} {v : Value} {R : List BRul} {s : ByteArray} {b : Int}
theorem all_tells (hA : Asks w v R s) : Calls Tryz.prog 96 #[v, .string s, .int .i64 b] w (TellAll w (rowErr R s b) (tellL R s b)) := by
  by_cases h : rowErr R s b = 0
  · obtain ⟨_, r, hr⟩ := rowErr_zero h
    refine (all_ok hA h hr).mono fun e w' ⟨va, he, ho, hc⟩ => ⟨va, by rw [h]; exact he, ?_, hc⟩
    unfold tellL rowD
    rw [if_pos h, hr]
    exact wordsAt_row ho (fun u hu => by have := ((row_sizes h hr).1 u hu).2; omega)
  · refine (all_err hA rfl h).mono fun e w' ⟨he, hc⟩ => ⟨_, he, ?_, hc⟩
    unfold tellL
    rw [if_neg h]
    exact wordsAt_nil _ _
end
theorem WordsAt.imp {w : World} {v : Value} {G G' : Nat → Prop} {l : List ByteArray} (h : WordsAt w v G l) (hg : ∀ k, G k → G' k) : WordsAt w v G' l := by
  obtain ⟨la, cap, h1, h2, h3⟩ := h
  exact ⟨la, cap, h1, h2, fun j r hj => by obtain ⟨lb, lo, q1, q2, q3⟩ := h3 j r hj; exact ⟨lb, lo, q1, hg _ q2, q3⟩⟩
def ruleCells (L : List BRul) : List Value := L.flatMap fun r => [.string r.1, .string r.2]
theorem ruleCells_length (L : List BRul) : (ruleCells L).length = L.length * 2 := by
  unfold ruleCells
  induction L with
  | nil => rfl
  | cons a t ih => rw [List.flatMap_cons, List.length_append, ih]; simp; omega
theorem ruleCells_append (L M : List BRul) : ruleCells (L ++ M) = ruleCells L ++ ruleCells M := by unfold ruleCells; rw [List.flatMap_append]
theorem ruleCells_one (L : List BRul) : ∀ v ∈ ruleCells L, v.oneCell' = true := by
  intro v hv
  unfold ruleCells at hv
  rw [List.mem_flatMap] at hv
  obtain ⟨r, _, h⟩ := hv
  simp at h
  rcases h with rfl | rfl <;> rfl
theorem ruleCells_get : ∀ (L : List BRul) (k : Nat) r, L[k]? = some r → (ruleCells L)[k * 2]? = some (.string r.1) ∧ (ruleCells L)[k * 2 + 1]? = some (.string r.2)
  | [], k, r, h => by simp at h
  | a :: t, 0, r, h => by
    simp at h
    subst h
    unfold ruleCells
    rw [List.flatMap_cons]
    exact ⟨rfl, rfl⟩
  | a :: t, k + 1, r, h => by
    obtain ⟨h1, h2⟩ := ruleCells_get t k r (by simpa using h)
    have e : ruleCells (a :: t) = [.string a.1, .string a.2] ++ ruleCells t := by unfold ruleCells; rw [List.flatMap_cons]
    rw [e]
    refine ⟨?_, ?_⟩
    · rw [List.getElem?_append_right (by simp; omega)]; simpa [show (k + 1) * 2 - 2 = k * 2 by omega] using h1
    · rw [List.getElem?_append_right (by simp; omega)]; simpa [show (k + 1) * 2 + 1 - 2 = k * 2 + 1 by omega] using h2
theorem ruleCells_at {L : List BRul} {j : Nat} {u : Value} (h : (ruleCells L)[j]? = some u) : ∃ k r, L[k]? = some r ∧ (j = k * 2 ∧ u = .string r.1 ∨ j = k * 2 + 1 ∧ u = .string r.2) := by
  have hl := (List.getElem?_eq_some_iff.1 h).1
  rw [ruleCells_length] at hl
  have hk : j / 2 < L.length := by omega
  refine ⟨j / 2, L[j / 2], List.getElem?_eq_getElem hk, ?_⟩
  obtain ⟨h1, h2⟩ := ruleCells_get L (j / 2) _ (List.getElem?_eq_getElem hk)
  rcases Nat.mod_two_eq_zero_or_one j with q | q
  · rw [show j / 2 * 2 = j by omega, h] at h1
    exact .inl ⟨by omega, Option.some.inj h1⟩
  · rw [show j / 2 * 2 + 1 = j by omega, h] at h2
    exact .inr ⟨by omega, Option.some.inj h2⟩
theorem rulesAt_own {w : World} {base : Nat} {v : Value} {L : List BRul} (h : w.ownsRow base 69 2 v L.length (ruleCells L)) (hs : ∀ r ∈ L, r.1.size ≤ maxLen ∧ r.2.size ≤ maxLen) : RulesAt w v (· < w.heap.size) L := by
  have h0 := h
  obtain ⟨h1, ⟨rfl, h2⟩ | ⟨g, cap, cur, rfl, hg, hh, q1, q2, q3, q4⟩⟩ := h
  · refine ⟨none, 0, by rw [h2], by rw [h2]; unfold maxLen; omega, fun j x hj => ?_⟩
    have : j < L.length := (List.getElem?_eq_some_iff.1 hj).1
    omega
  · refine ⟨_, cap, rfl, by omega, fun j x hj => ?_⟩
    have hj' : j < L.length := (List.getElem?_eq_some_iff.1 hj).1
    obtain ⟨c1, c2⟩ := ruleCells_get L j x hj
    obtain ⟨z1, z2⟩ := hs x (List.mem_of_getElem? hj)
    refine ⟨g, 0, rfl, lt_of_obj hh, ?_, ?_, z1, z2⟩
    · rw [Nat.zero_add, h0.cellAt (j := j * 2) (by omega)]; exact c1
    · rw [Nat.zero_add, h0.cellAt (j := j * 2 + 1) (by omega)]; exact c2
theorem rules_src {w : World} {la : Option Addr} {n cap : Nat} {G : Nat → Prop} {R : List BRul} (h : RulesAt w (.slice la n cap) G R) : ∀ (j : Nat) u, (ruleCells R)[j]? = some u → ∃ g o, la = some ⟨g, o, none⟩ ∧ w.cell? ⟨g, o + j, none⟩ = some u := by
  obtain ⟨la', cap', e, _, hc⟩ := h
  cases e
  intro j u hj
  obtain ⟨k, r, hk, q⟩ := ruleCells_at hj
  obtain ⟨lb, lo, e1, _, c0, c1, _⟩ := hc k r hk
  refine ⟨lb, lo, e1, ?_⟩
  rcases q with ⟨rfl, rfl⟩ | ⟨rfl, rfl⟩
  · exact c0
  · rw [← Nat.add_assoc]; exact c1
theorem Tryz.elemRule : ElemInfo Tryz.prog 69 2 32 := elemInfo_of (z := .agg #[.string ⟨#[]⟩, .string ⟨#[]⟩]) (by kernel_rfl) rfl (by decide)
def Small (R : List BRul) : Prop := R.length ≤ 30 ∧ ∀ r ∈ R, r.1.size ≤ 100 ∧ r.2.size ≤ 100
theorem asks_own {w : World} {base : Nat} {v : Value} {L : List BRul} {s : ByteArray} (h : w.ownsRow base 69 2 v L.length (ruleCells L)) (hL : Small L) (hs : s.size ≤ maxLen) : Asks w v L s :=
  ⟨rulesAt_own h (fun r hr => by have := hL.2 r hr; unfold maxLen; omega), .inl ⟨by have := hL.1; omega, fun r hr => by have := (hL.2 r hr).1; omega⟩, hs⟩
open Classical in
/-- A set of words, as a map. -/
noncomputable def wsetF (S : Wd → Prop) : Lit → Option (DataW Unit) := fun kl => if ∃ u, S u ∧ kl = .string u then some (.lit (.bool true)) else none
theorem wsetF_none : wsetF (fun _ => False) = fun _ => none := by
  funext kl
  unfold wsetF
  rw [if_neg]
  rintro ⟨_, h, _⟩; exact h
theorem wsetF_in {S : Wd → Prop} {u : Wd} (h : S u) : wsetF S (.string u) = some (.lit (.bool true)) := by
  unfold wsetF; rw [if_pos ⟨u, h, rfl⟩]
theorem wsetF_out {S : Wd → Prop} {u : Wd} (h : ¬ S u) : wsetF S (.string u) = none := by
  unfold wsetF
  rw [if_neg]
  rintro ⟨x, hx, e⟩
  rw [Lit.string.injEq] at e
  exact h (e ▸ hx)
theorem wsetF_put (S : Wd → Prop) (x : Wd) : putF (wsetF S) (.string x) (some (.lit (.bool true))) = wsetF (fun u => S u ∨ u = x) := by
  funext kl
  unfold putF
  by_cases h : kl = .string x
  · rw [if_pos h, h, wsetF_in (.inr rfl)]
  · rw [if_neg h]
    unfold wsetF
    by_cases h2 : ∃ u, S u ∧ kl = .string u
    · rw [if_pos h2, if_pos]
      obtain ⟨u, q1, q2⟩ := h2
      exact ⟨u, .inl q1, q2⟩
    · rw [if_neg h2, if_neg]
      rintro ⟨u, q1 | q1, q2⟩
      · exact h2 ⟨u, q1, q2⟩
      · subst q1; exact h q2
end Go.Proofs.YtjifdfhibkipnaaGreat
