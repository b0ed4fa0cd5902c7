/-
  A region that draws its order, walked by a plan, where its last operation (number L) may write what its reads lean on: every read comes ahead of it.
-/
import Derived.Test.YtiidagdapckgjaaPlan
namespace Go.Proofs.Ytiidagdapckgjaa
open Go.RowKit

def wpAnyG (P : Program) (md : Region.Mode) (ops : Array Oper) (Q : Exit → Act → World → Prop) (S : World → Prop) (L : Nat) : Nat → Array Bool → Act → World → Prop
  | 0, listed, a, w => Region.ready md ops listed = [] ∧ Q .normal a w
  | fuel + 1, listed, a, w =>
    (Region.ready md ops listed = [] → Q .normal a w) ∧
    ∀ i ∈ Region.ready md ops listed, wpOp P ops Q i (fun a' w' => (i = L ∨ S w') ∧ wpAnyG P md ops Q S L fuel (listed.setIfInBounds i true) a' w') a w
def wpPlanL (P : Program) (ops : Array Oper) (S : World → Prop) (L : Nat) (Q : Exit → Act → World → Prop) : List Stp → Act → World → Prop
  | [], a, w => Q .normal a w
  | .rd is :: r, a, w => ∃ A, (∀ w', S w' → ∀ K : Act → Prop, K A → wpStill P ops w' K (opsAt ops is) a) ∧ wpPlanL P ops S L Q r A w
  | .ef i :: r, a, w => wpOp P ops (NoPanic Q) i (fun a' w' => (i = L ∨ S w') ∧ wpPlanL P ops S L Q r a' w') a w
def depB (ops : Array Oper) (L i : Nat) : Bool := match ops[L]? with
  | none => true
  | some o => o.after.any fun e => Region.binds .any e && e.on == i
def depsB (ops : Array Oper) (L : Nat) : List Stp → Bool
  | [] => true
  | .rd is :: r => is.all (depB ops L) && depsB ops L r
  | .ef i :: r => (!(i == L) || r.isEmpty) && depsB ops L r

section
variable {P : Program} {ops : Array Oper} {Q : Exit → Act → World → Prop} {S : World → Prop} {L : Nat}
theorem wpAny_of_G {md : Region.Mode} : ∀ (fuel : Nat) (listed : Array Bool) (a : Act) (w : World), wpAnyG P md ops Q S L fuel listed a w → wpAny P md ops Q fuel listed a w
  | 0, _, _, _, h => h
  | fuel + 1, _, _, _, h => ⟨h.1, fun i hi => wpOp_mono (fun a' w' h' => wpAny_of_G fuel _ a' w' h'.2) (h.2 i hi)⟩
theorem wpAnyG_done {md : Region.Mode} {listed : Array Bool} {a : Act} {w : World} (hr : Region.ready md ops listed = []) (h : Q .normal a w) : ∀ fuel, wpAnyG P md ops Q S L fuel listed a w
  | 0 => ⟨hr, h⟩
  | _ + 1 => ⟨fun _ => h, fun i hi => by rw [hr] at hi; cases hi⟩
theorem wpAnyG_all {md : Region.Mode} {rs : List Nat} {fuel : Nat} {listed : Array Bool} {a : Act} {w : World} (hr : Region.ready md ops listed = rs) (hne : rs ≠ [])
    (h : ∀ i ∈ rs, wpOp P ops Q i (fun a' w' => (i = L ∨ S w') ∧ wpAnyG P md ops Q S L fuel (listed.setIfInBounds i true) a' w') a w) : wpAnyG P md ops Q S L (fuel + 1) listed a w :=
  ⟨fun e => absurd (hr ▸ e) hne, fun i hi => h i (hr ▸ hi)⟩
theorem wpAnyG_first {md : Region.Mode} {i : Nat} {oi : Oper} {v : Value} {Q : Exit → Act → World → Prop} (hi : ops[i]? = some oi) (hsel : ∀ (j : Nat) (o : Oper) cs b, ops[j]? = some o → o.op ≠ .select cs b)
    (hdep : ∀ oL, ops[L]? = some oL → ∃ e ∈ oL.after, Region.binds md e = true ∧ e.on = i)
    (hQ : ∀ c a w, Q (.panic c) (a.put oi.dst v) w → Q (.panic c) a w) :
    ∀ (fuel : Nat) (listed : Array Bool) (a : Act) (w : World),
      (∀ (j : Nat) oj, ops[j]? = some oj → j ≠ i → listed.getD j true = false → (∀ e ∈ oj.after, Region.binds md e = true → e.on ≠ i) → oi.apart ops oj = true) →
      i ∈ Region.ready md ops listed → YieldsQ P ops S oi v a → S w →
      wpAnyG P md ops Q S L fuel (listed.setIfInBounds i true) (a.put oi.dst v) w → wpAnyG P md ops Q S L (fuel + 1) listed a w := by
  intro fuel
  induction fuel with
  | zero =>
    intro listed a w _ hr hy hS H
    refine ⟨fun h => (by rw [h] at hr; cases hr), fun j hj => ?_⟩
    by_cases hji : j = i
    · subst hji; exact hy.wpOp hi hS ⟨.inr hS, H⟩
    · have := ready_mono hj hji
      rw [H.1] at this
      cases this
  | succ fuel ih =>
    intro listed a w hfree hr hy hS H
    refine ⟨fun h => (by rw [h] at hr; cases hr), fun j hj => ?_⟩
    by_cases hji : j = i
    · subst hji; exact hy.wpOp hi hS ⟨.inr hS, H⟩
    · have h1 := H.2 j (ready_mono hj hji)
      obtain ⟨hjun, oj, hoj, hall⟩ := mem_ready.1 hj
      have hnot : ∀ e ∈ oj.after, Region.binds md e = true → e.on ≠ i := fun e he hb heq => by
        have h1 := hall e he hb
        have h0 := (mem_ready.1 hr).1
        rw [heq] at h1
        rcases Nat.lt_or_ge i listed.size with h' | h'
        · simp [h'] at h0 h1; rw [h0] at h1; cases h1
        · simp [Array.getElem?_eq_none h'] at h1
      have h2 := wpOp_putQ hoj (hfree j oj hoj hji hjun hnot) (fun cs b => hsel i oi cs b hi) (fun cs b => hsel j oj cs b hoj) hQ hy h1
      have hfree' : ∀ (k : Nat) ok, ops[k]? = some ok → k ≠ i → (listed.setIfInBounds j true).getD k true = false →
          (∀ e ∈ ok.after, Region.binds md e = true → e.on ≠ i) → oi.apart ops ok = true := fun k ok hk hki hun hno => by
        refine hfree k ok hk hki ?_ hno
        by_cases hjk : j = k
        · subst hjk; exact hjun
        · rw [getD_set_ne true hjk] at hun; exact hun
      have hjL : j ≠ L := fun e => by
        obtain ⟨e', h1, h2, h3⟩ := hdep oj (by rw [← e]; exact hoj)
        exact hnot e' h1 h2 h3
      refine wpOp_mono (fun a' w' h3 => ⟨h3.2.1, ih (listed.setIfInBounds j true) a' w' hfree' (ready_mono hr (Ne.symm hji)) h3.1 (h3.2.1.resolve_left hjL) ?_⟩) h2
      rw [Array.setIfInBounds_comm _ _ hji]
      exact h3.2.2

theorem planL_reads {N : Nat} {w : World} (hsel : Region.noSelect ops = true) (hS : S w) {A : Act} {fuel : Nat} :
    ∀ (is : List Nat) (listed : Array Bool) (a : Act), N ≤ a.tmps.size → rdsB ops N is = true → planB.goB ops is listed = true → is.all (depB ops L) = true →
      (∀ w', S w' → wpStill P ops w' (· = A) (opsAt ops is) a) →
      wpAnyG P .any ops (NoPanic Q) S L fuel (is.foldl (fun l i => l.setIfInBounds i true) listed) A w →
      wpAnyG P .any ops (NoPanic Q) S L (fuel + is.length) listed a w
  | [], listed, a, _, _, _, _, hst, h => by
    have : a = A := hst w hS
    subst this; exact h
  | i :: is, listed, a, hN, hr, hg, hdp, hst, h => by
    simp only [List.all_cons, Bool.and_eq_true] at hdp
    obtain ⟨hdi, hdr⟩ := hdp
    have hdep : ∀ oL, ops[L]? = some oL → ∃ e ∈ oL.after, Region.binds .any e = true ∧ e.on = i := fun oL hoL => by
      unfold depB at hdi
      rw [hoL] at hdi
      simp only [Array.any_eq_true] at hdi
      obtain ⟨x, hx, hb⟩ := hdi
      simp only [Bool.and_eq_true, beq_iff_eq] at hb
      exact ⟨_, Array.getElem_mem hx, hb.1, hb.2⟩
    simp only [planB.goB, Bool.and_eq_true, decide_eq_true_eq] at hg
    obtain ⟨⟨⟨hi, hrd⟩, hfr⟩, hg'⟩ := hg
    simp only [rdsB, Bool.and_eq_true] at hr
    obtain ⟨hd, hr'⟩ := hr
    have ho : ops[i]? = some ops[i] := Array.getElem?_eq_getElem hi
    have hop : opsAt ops (i :: is) = ops[i] :: opsAt ops is := by simp [opsAt, ho]
    obtain ⟨d, hdd, hd2⟩ : ∃ d, dstAt ops i = some d ∧ (decide (d < N) && is.all fun j => !(dstAt ops j == some d)) = true := by
      cases hq : dstAt ops i with
      | none => rw [hq] at hd; simp at hd
      | some d => rw [hq] at hd; exact ⟨d, rfl, by simpa using hd⟩
    simp only [Bool.and_eq_true, decide_eq_true_eq, List.all_eq_true] at hd2
    have hdst : ops[i].dst = some d := by simpa [dstAt, ho] using hdd
    have hsz : d < a.tmps.size := Nat.lt_of_lt_of_le hd2.1 hN
    have hne : ∀ o ∈ opsAt ops is, o.dst ≠ some d := by
      intro o ho' e
      simp only [opsAt, List.mem_filterMap] at ho'
      obtain ⟨j, hj, hjo⟩ := ho'
      have := hd2.2 j hj
      simp [dstAt, hjo, e] at this
    -- the value that it leaves, whatever the world
    have key : ∃ v, YieldsQ P ops S ops[i] v a ∧ ∀ w', S w' → wpStill P ops w' (· = A) (opsAt ops is) (a.put ops[i].dst v) := by
      by_cases hw : Region.wanted ops[i] (yielded ops a.tmps) = true
      · have hv : ∀ w', S w' → ∃ v, asV P w' v ((execOp a.eval ops[i]).run P w') ∧ wpStill P ops w' (· = A) (opsAt ops is) (a.put ops[i].dst v) := by
          intro w' hS'
          have h1 := hst w' hS'
          rw [hop] at h1
          unfold wpStill at h1
          rw [if_pos hw] at h1
          unfold Oper.still at h1
          cases hres : (execOp a.eval ops[i]).run P w' with
          | halt x w'' => rw [hres] at h1; cases x <;> simp [Oper.stillUpon] at h1
          | ok n w'' =>
            rw [hres] at h1
            cases n with
            | value u => exact ⟨u, ⟨h1.1, rfl⟩, h1.2⟩
            | skip => exact ⟨undef, ⟨h1.1, rfl⟩, h1.2⟩
            | enter f args => obtain ⟨h2, v, h3, h4⟩ := h1; exact ⟨v, ⟨h2, h3⟩, h4⟩
            | _ => simp [Oper.stillUpon] at h1
        refine ⟨A.tmps.getD d undef, .inl ⟨hw, fun w' hS' => ?_⟩, fun w' hS' => ?_⟩
        all_goals
          obtain ⟨v, hv1, hv2⟩ := hv w' hS'
          have hv3 := hv2
          rw [hdst] at hv3
          have e := (still_keeps (opsAt ops is) _ hne hv3).1
          rw [put_getD a d v hsz] at e
          rw [e]
          assumption
      · refine ⟨undef, .inr ⟨by simpa using hw, rfl⟩, fun w' hS' => ?_⟩
        have h1 := hst w' hS'
        rw [hop] at h1
        unfold wpStill at h1
        rw [if_neg hw] at h1
        exact h1
    obtain ⟨v, hy, hst'⟩ := key
    have := planL_reads hsel hS is (listed.setIfInBounds i true) (a.put ops[i].dst v) (by rw [put_size]; exact hN) hr' hg' hdr hst' h
    exact wpAnyG_first ho (Region.noSelect_spec hsel) hdep noPanic_put (fuel + is.length) listed a w (Region.free_spec ho hfr) (by simpa using hrd) hy hS this

theorem planL_run {N : Nat} (hsel : Region.noSelect ops = true) : ∀ (pl : List Stp) (listed : Array Bool) (a : Act) (w : World), N ≤ a.tmps.size → (S w ∨ pl = []) → depsB ops L pl = true → planB ops N pl listed = true →
      wpPlanL P ops S L Q pl a w → wpAnyG P .any ops (NoPanic Q) S L (planLen pl) listed a w
  | [], listed, a, w, _, _, _, hb, h => by
    simp only [planB, List.isEmpty_iff] at hb
    exact wpAnyG_done (Q := NoPanic Q) hb h _
  | .rd is :: r, listed, a, w, hN, hS, hdp, hb, h => by
    have hS : S w := hS.resolve_right (by simp)
    simp only [depsB, Bool.and_eq_true] at hdp
    simp only [planB, Bool.and_eq_true] at hb
    obtain ⟨A, h1, h2⟩ := h
    have hA : A.tmps.size = a.tmps.size := by
      have := h1 w hS (· = A) rfl
      have key : ∀ (l : List Oper) (a : Act), wpStill P ops w (· = A) l a → A.tmps.size = a.tmps.size := by
        intro l
        induction l with
        | nil => intro a h; have : a = A := h; rw [this]
        | cons o l ih =>
          intro a h
          unfold wpStill at h
          split at h
          · unfold Oper.still at h
            generalize (execOp a.eval o).run P w = res at h
            cases res with
            | halt x w' => cases x <;> simp [Oper.stillUpon] at h
            | ok n w' =>
              cases n with
              | value v => have := ih _ h.2; rwa [put_size] at this
              | skip => have := ih _ h.2; rwa [put_size] at this
              | enter f args => obtain ⟨_, v, _, hv⟩ := h; have := ih _ hv; rwa [put_size] at this
              | _ => simp [Oper.stillUpon] at h
          · have := ih _ h; rwa [put_size] at this
      exact key _ _ this
    have := planL_run hsel r _ A w (by omega) (.inl hS) hdp.2 hb.2 h2
    have := planL_reads (N := N) hsel hS is listed a hN hb.1.1 hb.1.2 hdp.1 (fun w' hS' => h1 w' hS' (· = A) rfl) this
    rw [show planLen (.rd is :: r) = planLen r + is.length from Nat.add_comm _ _]
    exact this
  | .ef i :: r, listed, a, w, hN, _, hdp, hb, h => by
    simp only [depsB, Bool.and_eq_true, Bool.or_eq_true, Bool.not_eq_true', beq_eq_false_iff_ne, List.isEmpty_iff] at hdp
    simp only [planB, Bool.and_eq_true, decide_eq_true_eq, beq_iff_eq] at hb
    rw [show planLen (.ef i :: r) = planLen r + 1 from Nat.add_comm _ _]
    refine wpAnyG_all hb.1.1 (by simp) (fun j hj => ?_)
    simp at hj
    subst hj
    refine wpOp_mono (fun a' w' ⟨hs, hS', hp⟩ => ⟨hS', planL_run hsel r _ a' w' (by omega) ?_ hdp.2 hb.2 hp⟩) (wpOp_size h)
    rcases hS' with e | e
    · exact .inr (hdp.1.resolve_left (fun q => q e))
    · exact .inl e

/-- THE THEOREM: a region that draws its order, by a plan; operation L is the last one, and may write what the reads lean on. -/
theorem wp_region_planL {id N : Nat} {l : List Oper} {a : Act} {w : World} (pl : List Stp) (L : Nat) (S : World → Prop) (hm : P.follows .mixedOrders = true) (hsel : Region.noSelect l.toArray = true)
    (hlen : planLen pl = l.toArray.size) (hd : depsB l.toArray L pl = true) (hb : planB l.toArray N pl (Array.replicate l.toArray.size false) = true) (hN : N ≤ a.tmps.size) (hS : S w.drew)
    (h : wpPlanL P l.toArray S L Q pl a w.drew) : (Code.region id l.toArray true).wp P Q a w := by
  refine wp_region_noPanic (wp_region_any hm (wpAny_of_G (S := S) (L := L) _ _ _ _ ?_))
  have := planL_run hsel pl _ a w.drew hN (.inl hS) hd hb h
  rw [hlen] at this; exact this
theorem planL_ef {i : Nat} {o : Oper} {r : List Stp} {a : Act} {w : World} (ho : ops[i]? = some o)
    (h : wpList P ops (PlanQ Q (fun a' w' => (i = L ∨ S w') ∧ wpPlanL P ops S L Q r a' w')) [o] a w) : wpPlanL P ops S L Q (.ef i :: r) a w := by
  show wpOp P ops (NoPanic Q) i _ a w
  unfold wpOp
  rw [ho]
  dsimp only
  unfold wpList at h
  have hq : ∀ e a w, e ≠ .normal → PlanQ Q (fun a' w' => (i = L ∨ S w') ∧ wpPlanL P ops S L Q r a' w') e a w → NoPanic Q e a w := by
    intro e a w he h
    cases e <;> first | exact absurd rfl he | exact h | exact (h : False).elim
  split at h
  · rename_i hw
    rw [if_pos hw]
    refine h.imp (fun h => ?_) (fun ⟨h1, a, w, h2⟩ => ⟨h1, a, w, h2⟩)
    exact Oper.wp_mono (fun a w h => h) (wp_q_mono hq h)
  · rename_i hw
    rw [if_neg hw]; exact h
theorem planL_rd {is : List Nat} {r : List Stp} {a A : Act} {w : World} (h : ∀ w', S w' → ∀ K : Act → Prop, K A → wpStill P ops w' K (opsAt ops is) a) (h2 : wpPlanL P ops S L Q r A w) : wpPlanL P ops S L Q (.rd is :: r) a w := ⟨A, h, h2⟩
theorem planL_nil {a : Act} {w : World} (h : Q .normal a w) : wpPlanL P ops S L Q [] a w := h
end
end Go.Proofs.Ytiidagdapckgjaa
