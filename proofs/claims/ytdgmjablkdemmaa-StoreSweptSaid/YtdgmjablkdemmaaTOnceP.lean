/-
  The store's laws in plain Lean.
-/
import Derived.Test.YtdgmjablkdemmaaTAwake
namespace Go.Proofs.Ytdgmjablkdemmaa
open Go.RowKit Go.Maps

theorem putS_facts (s : PStore) (c : BCert) : (putS s c).2.2.room = s.room ∧ (putS s c).2.2.next ≤ s.next + 1 ∧ (putS s c).2.2.turn ≤ s.turn + 1 ∧ ((putS s c).2.1 = 3 → s.room ≤ s.certs.length) := by
  unfold putS
  split
  · split
    · exact ⟨rfl, Nat.le_succ _, Nat.le_succ _, fun e => by cases e⟩
    · split
      · exact ⟨rfl, Nat.le_succ _, Nat.le_succ _, fun _ => by assumption⟩
      · exact ⟨rfl, Nat.le_refl _, Nat.le_refl _, fun e => by cases e⟩
  · exact ⟨rfl, Nat.le_succ _, Nat.le_succ _, fun e => by cases e⟩
theorem filter_two {α : Type} (p q : α → Bool) (h : ∀ a, q a = !p a) : ∀ l : List α, (l.filter p).length + (l.filter q).length = l.length
  | [] => rfl
  | a :: l => by
    have := filter_two p q h l
    rw [List.filter_cons, List.filter_cons, h a, List.length_cons]
    cases p a <;> simp <;> omega
theorem sweepS_facts (s : PStore) (t : Int) : (sweepS s t).room = s.room ∧ (sweepS s t).next = s.next ∧ (sweepS s t).turn ≤ s.turn + 1 ∧ (sweepS s t).certs.length + (s.gone t).length = s.certs.length := by
  refine ⟨rfl, rfl, ?_, ?_⟩
  · unfold sweepS
    simp only
    split <;> omega
  · unfold sweepS PStore.gone PStore.which
    simp only
    rw [List.length_map]
    exact filter_two _ _ (fun a => by
      rcases Int.lt_or_le a.2.t t with q | q
      · rw [decide_eq_true q, decide_eq_false (by omega)]; rfl
      · rw [decide_eq_false (by omega), decide_eq_true q]; rfl) s.certs
theorem once_facts {s : PStore} (h : PInv s) (c : BCert) :
    (∃ e, (e = 2 ∨ e = 3 ∧ s.certs.length = s.room) ∧ putS s c = (0, e, s)) ∨ (∃ i, i < s.next ∧ putS s c = (i, 0, s) ∧ s.get (i : Int) = some c) ∨
      (putS s c = (s.next, 0, s.plus c) ∧ putS (s.plus c) c = (s.next, 0, s.plus c) ∧ (s.plus c).get (s.next : Int) = some c) := by
  by_cases hc : certB c = true
  · cases hn : s.numOf (certE c) with
    | some i =>
      obtain ⟨c', e, hm⟩ := numOf_some hn
      obtain rfl : c' = c := certE_inj (h.ok _ hm) hc e
      exact .inr (.inl ⟨i, h.lt _ hm, putS_had hc hn, h.get_mem hm⟩)
    | none =>
      by_cases hr : s.room ≤ s.certs.length
      · exact .inl ⟨3, .inr ⟨rfl, Nat.le_antisymm h.len hr⟩, putS_full hc hn hr⟩
      · refine .inr (.inr ⟨putS_new hc hn hr, putS_had hc ?_, ?_⟩)
        · rw [plus_numOf c hn, if_pos rfl]
        · rw [plus_get h, if_pos rfl]
  · exact .inl ⟨2, .inl rfl, putS_bad (by simpa using hc)⟩
/-- What holds from one border to the next. -/
theorem border_same {s : PStore} {t n at_ : Int} {is : Bool} (h : Best (Borders s) t n is) (h1 : t ≤ at_) (h2 : is = true → at_ < n) : (s.which fun c => holdsB c at_) = (s.which fun c => holdsB c t) := by
  unfold PStore.which
  congr 1
  refine List.filter_congr (fun q hq => ?_)
  have key : ∀ x, Border q.2 x → t < x → at_ < x := fun x hx hlt => by
    obtain ⟨a, b⟩ := h.all x ⟨q, hq, hx⟩ hlt
    have := h2 a
    omega
  have k1 := key q.2.f (.inl rfl)
  have k2 := key (q.2.t + 1) (.inr rfl)
  unfold holdsB
  rw [Bool.eq_iff_iff]
  simp
  omega
theorem border_none {s : PStore} {t n : Int} (h : Best (Borders s) t n false) : (s.which fun c => holdsB c t) = [] := by
  unfold PStore.which
  rw [List.filter_eq_nil_iff.2 (fun q hq => ?_)]
  · rfl
  · have k2 : ¬ t < q.2.t + 1 := fun hlt => by
      have := (h.all (q.2.t + 1) ⟨q, hq, .inr rfl⟩ hlt).1
      cases this
    unfold holdsB
    simp
    omega
theorem sweep_get {s : PStore} (h : PInv s) (t x : Int) : (sweepS s t).get x = (s.get x).filter (fun c => decide (t ≤ c.t)) := by
  cases hg : s.get x with
  | none =>
    have hn := get_none hg
    cases hs : (sweepS s t).get x with
    | none => rfl
    | some c =>
      obtain ⟨i, rfl, hm⟩ := get_some hs
      exact absurd rfl (hn _ (List.mem_filter.1 hm).1)
  | some c =>
    obtain ⟨i, rfl, hm⟩ := get_some hg
    by_cases hc : t ≤ c.t
    · have hm2 : (i, c) ∈ (sweepS s t).certs := List.mem_filter.2 ⟨hm, by simpa using hc⟩
      rw [(h.sweep t).get_mem hm2]
      simp [Option.filter, hc]
    · cases hs : (sweepS s t).get (i : Int) with
      | none => simp [Option.filter, hc]
      | some d =>
        obtain ⟨j, e, hm2⟩ := get_some hs
        obtain rfl : j = i := by omega
        have h2 := List.mem_filter.1 hm2
        have := h.num_inj h2.1 hm rfl
        have hd := of_decide_eq_true h2.2
        rw [this] at hd
        exact absurd hd hc
theorem sweep_holds {s : PStore} {t u : Int} (h : t ≤ u) : ((sweepS s t).which fun c => holdsB c u) = (s.which fun c => holdsB c u) := by
  unfold PStore.which sweepS
  simp only
  rw [List.filter_filter]
  congr 1
  refine List.filter_congr (fun q _ => ?_)
  unfold holdsB
  rw [Bool.eq_iff_iff]
  simp
  omega
theorem sweep_twice (s : PStore) (t : Int) : (sweepS s t).gone t = [] := by
  unfold PStore.gone PStore.which sweepS
  simp only
  rw [List.filter_filter, List.filter_eq_nil_iff.2 (fun q _ => by simp)]
  rfl
end Go.Proofs.Ytdgmjablkdemmaa
