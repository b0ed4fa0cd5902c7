/-
  A region that draws its order, walked by a plan: reads in groups, and operations that do something, one at a time, each when nothing else may come up. S: what the reads lean on; it holds in every world of the region.
-/
import Derived.Test.YtjifdfhibkipnaaGreatProg
import Derived.WalkKit
import Derived.Deep.RegionHeld3
namespace Go.Proofs.YtjifdfhibkipnaaGreat
open Go.RowKit

inductive Stp where
  | rd (is : List Nat)
  | ef (i : Nat)

def opsAt (ops : Array Oper) (is : List Nat) : List Oper := is.filterMap (ops[·]?)

def wpPlan (P : Program) (ops : Array Oper) (S : World → Prop) (Q : Exit → Act → World → Prop) : List Stp → Act → World → Prop
  | [], a, w => Q .normal a w
  | .rd is :: r, a, w => ∃ A, (∀ w', S w' → ∀ K : Act → Prop, K A → wpStill P ops w' K (opsAt ops is) a) ∧ wpPlan P ops S Q r A w
  | .ef i :: r, a, w => wpOp P ops (NoPanic Q) i (fun a' w' => S w' ∧ wpPlan P ops S Q r a' w') a w

def dstAt (ops : Array Oper) (i : Nat) : Option Tmp := (ops[i]?).bind (·.dst)
def rdsB (ops : Array Oper) (N : Nat) : List Nat → Bool
  | [] => true
  | i :: is => (dstAt ops i).any (fun d => decide (d < N) && is.all fun j => !(dstAt ops j == some d)) && rdsB ops N is
def planB (ops : Array Oper) (N : Nat) : List Stp → Array Bool → Bool
  | [], listed => (Region.ready .any ops listed).isEmpty
  | .rd is :: r, listed => rdsB ops N is && goB is listed && planB ops N r (is.foldl (fun l i => l.setIfInBounds i true) listed)
  | .ef i :: r, listed => (Region.ready .any ops listed == [i]) && decide (i < ops.size) && planB ops N r (listed.setIfInBounds i true)
where goB : List Nat → Array Bool → Bool
  | [], _ => true
  | i :: is, listed => decide (i < ops.size) && (Region.ready .any ops listed).contains i && Region.free .any ops listed i && goB is (listed.setIfInBounds i true)
def planLen : List Stp → Nat
  | [] => 0
  | .rd is :: r => is.length + planLen r
  | .ef _ :: r => 1 + planLen r

section
variable {P : Program} {ops : Array Oper} {Q : Exit → Act → World → Prop} {S : World → Prop}

theorem noPanic_put {o : Oper} {v : Value} : ∀ c a w, NoPanic Q (.panic c) (a.put o.dst v) w → NoPanic Q (.panic c) a w := fun _ _ _ h => (h : False).elim

theorem put_getD (a : Act) (d : Tmp) (v : Value) (hd : d < a.tmps.size) : (a.put (some d) v).tmps.getD d undef = v := by
  simp [Act.put, hd]
theorem put_size (a : Act) (d : Option Tmp) (v : Value) : (a.put d v).tmps.size = a.tmps.size := by
  cases d <;> simp [Act.put]
theorem put_other (a : Act) (d : Tmp) (e : Option Tmp) (v : Value) (h : e ≠ some d) : (a.put e v).tmps.getD d undef = a.tmps.getD d undef := by
  cases e with
  | none => rfl
  | some e =>
    have : e ≠ d := fun x => h (by rw [x])
    simp [Act.put, this]
theorem put_out (a : Act) (d : Tmp) (v : Value) (hd : a.tmps.size ≤ d) : a.put (some d) v = a := by
  simp [Act.put, Array.setIfInBounds_eq_of_size_le hd]

/-- What is not written by the reads stays. -/
theorem still_keeps {w : World} {A : Act} {d : Tmp} : ∀ (l : List Oper) (a : Act), (∀ o ∈ l, o.dst ≠ some d) → wpStill P ops w (· = A) l a → A.tmps.getD d undef = a.tmps.getD d undef ∧ A.tmps.size = a.tmps.size
  | [], a, _, h => by have : a = A := h; subst this; exact ⟨rfl, rfl⟩
  | o :: r, a, hn, h => by
    unfold wpStill at h
    have key : ∀ v, wpStill P ops w (· = A) r (a.put o.dst v) → A.tmps.getD d undef = a.tmps.getD d undef ∧ A.tmps.size = a.tmps.size := fun v hv => by
      have ih := still_keeps r (a.put o.dst v) (fun o' ho' => hn o' (by simp [ho'])) hv
      rw [put_other a d o.dst v (hn o (by simp)), put_size] at ih
      exact ih
    split at h
    · unfold Oper.still at h
      generalize (execOp a.eval o).run P w = res at h
      cases res with
      | halt x w' => cases x <;> simp [Oper.stillUpon] at h
      | ok n w' =>
        cases n with
        | value v => exact key v h.2
        | skip => exact key undef h.2
        | enter f args => obtain ⟨_, v, _, hv⟩ := h; exact key v hv
        | _ => simp [Oper.stillUpon] at h
    · exact key undef h

/-- In every world that meets S the operation leaves 'v' in its temporary and changes nothing (a call that only reads among them). -/
def asV (P : Program) (w : World) (v : Value) : Result Next → Prop
  | .ok (.value u) w' => w' = w ∧ u = v
  | .ok .skip w' => w' = w ∧ v = undef
  | .ok (.enter f args) w' => w' = w ∧ Calls P f args w (fun e w'' => e = .returned v ∧ w'' = w)
  | _ => False
def YieldsQ (P : Program) (ops : Array Oper) (S : World → Prop) (o : Oper) (v : Value) (a : Act) : Prop :=
  (Region.wanted o (yielded ops a.tmps) = true ∧ ∀ w, S w → asV P w v ((execOp a.eval o).run P w)) ∨
  (Region.wanted o (yielded ops a.tmps) = false ∧ v = undef)
theorem YieldsQ.wpOp {i : Nat} {o : Oper} {v : Value} {a : Act} {Q : Exit → Act → World → Prop} (hi : ops[i]? = some o) (hy : YieldsQ P ops S o v a)
    {K : Act → World → Prop} {w : World} (hS : S w) (h : K (a.put o.dst v) w) : wpOp P ops Q i K a w := by
  unfold Go.wpOp
  simp only [hi]
  rcases hy with ⟨hw, hv⟩ | ⟨hw, rfl⟩
  · simp only [hw, if_true]
    refine .inl ?_
    have := hv w hS
    unfold Oper.wp
    generalize (execOp a.eval o).run P w = res at this
    cases res with
    | halt x w' => exact this.elim
    | ok n w' =>
      cases n with
      | value u => obtain ⟨rfl, rfl⟩ := this; exact h
      | skip => obtain ⟨rfl, rfl⟩ := this; exact h
      | enter f args =>
        obtain ⟨rfl, hc⟩ := this
        refine Calls.mono hc fun e w'' he => ?_
        obtain ⟨rfl, rfl⟩ := he
        exact h
      | _ => exact this.elim
  · simp only [hw, Bool.false_eq_true, if_false]; exact h
theorem YieldsQ.of_same {o : Oper} {v : Value} {a a' : Act} (hy : YieldsQ P ops S o v a) (he : execOp a'.eval o = execOp a.eval o)
    (hw : Region.wanted o (yielded ops a'.tmps) = Region.wanted o (yielded ops a.tmps)) : YieldsQ P ops S o v a' := by
  unfold YieldsQ at *
  rw [he, hw]
  exact hy
theorem wpOp_putQ {j : Nat} {oi oj : Oper} {v : Value} {Q : Exit → Act → World → Prop} (hj : ops[j]? = some oj) (hap : oi.apart ops oj = true)
    (hsi : ∀ cs b, oi.op ≠ .select cs b) (hsj : ∀ cs b, oj.op ≠ .select cs b)
    (hQ : ∀ c a w, Q (.panic c) (a.put oi.dst v) w → Q (.panic c) a w) {K : Act → World → Prop} {a : Act} {w : World}
    (hy : YieldsQ P ops S oi v a) (h : Go.wpOp P ops Q j K (a.put oi.dst v) w) :
    Go.wpOp P ops Q j (fun a' w' => YieldsQ P ops S oi v a' ∧ K (a'.put oi.dst v) w') a w := by
  obtain ⟨h1, h2, h3⟩ := Oper.apart_spec hap
  have keep : ∀ (a : Act), YieldsQ P ops S oi v a → ∀ u, YieldsQ P ops S oi v (a.put oj.dst u) := fun a hy u =>
    hy.of_same (execOp_put oi hsi a oj.dst u h3) (wanted_put oi a oj.dst u h3)
  have keepD : ∀ d, YieldsQ P ops S oi v { a with defers := d :: a.defers } := fun d => hy.of_same rfl rfl
  unfold Go.wpOp at *
  simp only [hj] at *
  rw [wanted_put oj a oi.dst v h1] at h
  split
  · rename_i hw
    simp only [hw, if_true] at h
    rcases h with h | ⟨hasks, hlets⟩
    case inr => exact .inr ⟨by unfold Oper.asks at *; rw [execOp_put oj hsj a oi.dst v h1] at hasks; exact hasks, hlets⟩
    refine .inl ?_
    unfold Oper.wp at *
    rw [execOp_put oj hsj a oi.dst v h1] at h
    generalize (execOp a.eval oj).run P w = r at *
    cases r with
    | ok n w' =>
      cases n <;> simp only [Oper.upon] at h ⊢
      case value u => exact ⟨keep a hy u, by rw [← Act.put_comm a v u h2]; exact h⟩
      case skip => exact ⟨keep a hy _, by rw [← Act.put_comm a v undef h2]; exact h⟩
      case defer d =>
        refine ⟨keep _ (keepD d) _, ?_⟩
        rw [← Act.put_comm _ v undef h2, ← Act.put_defers]
        exact h
      case enter f args =>
        refine Calls.mono h fun e w'' he => ?_
        cases e with
        | returned u => exact ⟨keep a hy u, by rw [← Act.put_comm a v u h2]; exact he⟩
        | panicked c => exact hQ _ _ _ he
        | outgrown => exact he
      case row row args => exact Rows.mono h fun u w'' he => ⟨keep a hy u, by rw [← Act.put_comm a v u h2]; exact he⟩
    | halt x w' =>
      cases x <;> simp only [Oper.upon] at h ⊢
      case panic u => exact hQ _ _ _ h
  · rename_i hw
    simp only [hw] at h
    exact ⟨keep a hy _, by rw [← Act.put_comm a v undef h2]; exact h⟩
theorem wpAnyQ_first {md : Region.Mode} {i : Nat} {oi : Oper} {v : Value} {Q : Exit → Act → World → Prop} (hi : ops[i]? = some oi) (hsel : ∀ (j : Nat) (o : Oper) cs b, ops[j]? = some o → o.op ≠ .select cs b)
    (hQ : ∀ c a w, Q (.panic c) (a.put oi.dst v) w → Q (.panic c) a w) :
    ∀ (fuel : Nat) (listed : Array Bool) (a : Act) (w : World),
      (∀ (j : Nat) oj, ops[j]? = some oj → j ≠ i → listed.getD j true = false → (∀ e ∈ oj.after, Region.binds md e = true → e.on ≠ i) → oi.apart ops oj = true) →
      i ∈ Region.ready md ops listed → YieldsQ P ops S oi v a → S w →
      wpAnyH P md ops Q S fuel (listed.setIfInBounds i true) (a.put oi.dst v) w → wpAnyH P md ops Q S (fuel + 1) listed a w := by
  intro fuel
  induction fuel with
  | zero =>
    intro listed a w _ hr hy hS H
    refine ⟨fun h => (by rw [h] at hr; cases hr), fun j hj => ?_⟩
    by_cases hji : j = i
    · subst hji; exact hy.wpOp hi hS ⟨hS, H⟩
    · have := ready_mono hj hji
      rw [H.1] at this
      cases this
  | succ fuel ih =>
    intro listed a w hfree hr hy hS H
    refine ⟨fun h => (by rw [h] at hr; cases hr), fun j hj => ?_⟩
    by_cases hji : j = i
    · subst hji; exact hy.wpOp hi hS ⟨hS, H⟩
    · have h1 := H.2 j (ready_mono hj hji)
      obtain ⟨hjun, oj, hoj, hall⟩ := mem_ready.1 hj
      have hnot : ∀ e ∈ oj.after, Region.binds md e = true → e.on ≠ i := fun e he hb heq => by
        have h1 := hall e he hb
        have h0 := (mem_ready.1 hr).1
        rw [heq] at h1
        rcases Nat.lt_or_ge i listed.size with h' | h'
        · simp [h'] at h0 h1; rw [h0] at h1; cases h1
        · simp [Array.getElem?_eq_none h'] at h1
      have h2 := wpOp_putQ hoj (hfree j oj hoj hji hjun hnot) (fun cs b => hsel i oi cs b hi) (fun cs b => hsel j oj cs b hoj) hQ hy h1
      have hfree' : ∀ (k : Nat) ok, ops[k]? = some ok → k ≠ i → (listed.setIfInBounds j true).getD k true = false →
          (∀ e ∈ ok.after, Region.binds md e = true → e.on ≠ i) → oi.apart ops ok = true := fun k ok hk hki hun hno => by
        refine hfree k ok hk hki ?_ hno
        by_cases hjk : j = k
        · subst hjk; exact hjun
        · rw [getD_set_ne true hjk] at hun; exact hun
      refine wpOp_mono (fun a' w' h3 => ⟨h3.2.1, ih (listed.setIfInBounds j true) a' w' hfree' (ready_mono hr (Ne.symm hji)) h3.1 h3.2.1 ?_⟩) h2
      rw [Array.setIfInBounds_comm _ _ hji]
      exact h3.2.2

theorem plan_reads {N : Nat} {w : World} (hsel : Region.noSelect ops = true) (hS : S w) {A : Act} {fuel : Nat} :
    ∀ (is : List Nat) (listed : Array Bool) (a : Act), N ≤ a.tmps.size → rdsB ops N is = true → planB.goB ops is listed = true →
      (∀ w', S w' → wpStill P ops w' (· = A) (opsAt ops is) a) →
      wpAnyH P .any ops (NoPanic Q) S fuel (is.foldl (fun l i => l.setIfInBounds i true) listed) A w →
      wpAnyH P .any ops (NoPanic Q) S (fuel + is.length) listed a w
  | [], listed, a, _, _, _, hst, h => by
    have : a = A := hst w hS
    subst this; exact h
  | i :: is, listed, a, hN, hr, hg, hst, h => by
    simp only [planB.goB, Bool.and_eq_true, decide_eq_true_eq] at hg
    obtain ⟨⟨⟨hi, hrd⟩, hfr⟩, hg'⟩ := hg
    simp only [rdsB, Bool.and_eq_true] at hr
    obtain ⟨hd, hr'⟩ := hr
    have ho : ops[i]? = some ops[i] := Array.getElem?_eq_getElem hi
    have hop : opsAt ops (i :: is) = ops[i] :: opsAt ops is := by simp [opsAt, ho]
    obtain ⟨d, hdd, hd2⟩ : ∃ d, dstAt ops i = some d ∧ (decide (d < N) && is.all fun j => !(dstAt ops j == some d)) = true := by
      cases hq : dstAt ops i with
      | none => rw [hq] at hd; simp at hd
      | some d => rw [hq] at hd; exact ⟨d, rfl, by simpa using hd⟩
    simp only [Bool.and_eq_true, decide_eq_true_eq, List.all_eq_true] at hd2
    have hdst : ops[i].dst = some d := by simpa [dstAt, ho] using hdd
    have hsz : d < a.tmps.size := Nat.lt_of_lt_of_le hd2.1 hN
    have hne : ∀ o ∈ opsAt ops is, o.dst ≠ some d := by
      intro o ho' e
      simp only [opsAt, List.mem_filterMap] at ho'
      obtain ⟨j, hj, hjo⟩ := ho'
      have := hd2.2 j hj
      simp [dstAt, hjo, e] at this
    -- the value that it leaves, whatever the world
    have key : ∃ v, YieldsQ P ops S ops[i] v a ∧ ∀ w', S w' → wpStill P ops w' (· = A) (opsAt ops is) (a.put ops[i].dst v) := by
      by_cases hw : Region.wanted ops[i] (yielded ops a.tmps) = true
      · have hv : ∀ w', S w' → ∃ v, asV P w' v ((execOp a.eval ops[i]).run P w') ∧ wpStill P ops w' (· = A) (opsAt ops is) (a.put ops[i].dst v) := by
          intro w' hS'
          have h1 := hst w' hS'
          rw [hop] at h1
          unfold wpStill at h1
          rw [if_pos hw] at h1
          unfold Oper.still at h1
          cases hres : (execOp a.eval ops[i]).run P w' with
          | halt x w'' => rw [hres] at h1; cases x <;> simp [Oper.stillUpon] at h1
          | ok n w'' =>
            rw [hres] at h1
            cases n with
            | value u => exact ⟨u, ⟨h1.1, rfl⟩, h1.2⟩
            | skip => exact ⟨undef, ⟨h1.1, rfl⟩, h1.2⟩
            | enter f args => obtain ⟨h2, v, h3, h4⟩ := h1; exact ⟨v, ⟨h2, h3⟩, h4⟩
            | _ => simp [Oper.stillUpon] at h1
        refine ⟨A.tmps.getD d undef, .inl ⟨hw, fun w' hS' => ?_⟩, fun w' hS' => ?_⟩
        all_goals
          obtain ⟨v, hv1, hv2⟩ := hv w' hS'
          have hv3 := hv2
          rw [hdst] at hv3
          have e := (still_keeps (opsAt ops is) _ hne hv3).1
          rw [put_getD a d v hsz] at e
          rw [e]
          assumption
      · refine ⟨undef, .inr ⟨by simpa using hw, rfl⟩, fun w' hS' => ?_⟩
        have h1 := hst w' hS'
        rw [hop] at h1
        unfold wpStill at h1
        rw [if_neg hw] at h1
        exact h1
    obtain ⟨v, hy, hst'⟩ := key
    have := plan_reads hsel hS is (listed.setIfInBounds i true) (a.put ops[i].dst v) (by rw [put_size]; exact hN) hr' hg' hst' h
    exact wpAnyQ_first ho (Region.noSelect_spec hsel) noPanic_put (fuel + is.length) listed a w (Region.free_spec ho hfr) (by simpa using hrd) hy hS this

theorem wp_put_size {o : Oper} {a : Act} {w : World} {K : Act → World → Prop} {Q : Exit → Act → World → Prop} (hh : o.wp P a w K Q) : o.wp P a w (fun a' w' => a'.tmps.size = a.tmps.size ∧ K a' w') Q := by
  unfold Oper.wp at *
  generalize (execOp a.eval o).run P w = r at *
  cases r with
  | ok n w' =>
    cases n <;> simp only [Oper.upon] at hh ⊢
    case value v => exact ⟨put_size _ _ _, hh⟩
    case skip => exact ⟨put_size _ _ _, hh⟩
    case defer d => exact ⟨by rw [put_size], hh⟩
    case enter f args =>
      refine Calls.mono hh fun e w'' he => ?_
      cases e with
      | returned u => exact ⟨put_size _ _ _, he⟩
      | panicked c => exact he
      | outgrown => exact he
    case row row args => exact Rows.mono hh fun u w'' he => ⟨put_size _ _ _, he⟩
  | halt x w' => cases x <;> simp only [Oper.upon] at hh ⊢; exact hh
theorem wpOp_size {i : Nat} {a : Act} {w : World} {K : Act → World → Prop} {Q : Exit → Act → World → Prop} (hh : wpOp P ops Q i K a w) : wpOp P ops Q i (fun a' w' => a'.tmps.size = a.tmps.size ∧ K a' w') a w := by
  unfold wpOp at *
  split
  · rename_i h; rw [h] at hh; exact ⟨rfl, hh⟩
  · rename_i o h
    rw [h] at hh
    dsimp only at hh
    split at hh
    · rename_i hw
      rw [if_pos hw]
      exact hh.imp wp_put_size id
    · rename_i hw
      rw [if_neg hw]
      exact ⟨put_size _ _ _, hh⟩

theorem plan_run {N : Nat} (hsel : Region.noSelect ops = true) : ∀ (pl : List Stp) (listed : Array Bool) (a : Act) (w : World), N ≤ a.tmps.size → S w → planB ops N pl listed = true →
      wpPlan P ops S Q pl a w → wpAnyH P .any ops (NoPanic Q) S (planLen pl) listed a w
  | [], listed, a, w, _, _, hb, h => by
    simp only [planB, List.isEmpty_iff] at hb
    exact wpAnyH_done (Q := NoPanic Q) hb h _
  | .rd is :: r, listed, a, w, hN, hS, hb, h => by
    simp only [planB, Bool.and_eq_true] at hb
    obtain ⟨A, h1, h2⟩ := h
    have hA : A.tmps.size = a.tmps.size := by
      have := h1 w hS (· = A) rfl
      have key : ∀ (l : List Oper) (a : Act), wpStill P ops w (· = A) l a → A.tmps.size = a.tmps.size := by
        intro l
        induction l with
        | nil => intro a h; have : a = A := h; rw [this]
        | cons o l ih =>
          intro a h
          unfold wpStill at h
          split at h
          · unfold Oper.still at h
            generalize (execOp a.eval o).run P w = res at h
            cases res with
            | halt x w' => cases x <;> simp [Oper.stillUpon] at h
            | ok n w' =>
              cases n with
              | value v => have := ih _ h.2; rwa [put_size] at this
              | skip => have := ih _ h.2; rwa [put_size] at this
              | enter f args => obtain ⟨_, v, _, hv⟩ := h; have := ih _ hv; rwa [put_size] at this
              | _ => simp [Oper.stillUpon] at h
          · have := ih _ h; rwa [put_size] at this
      exact key _ _ this
    have := plan_run hsel r _ A w (by omega) hS hb.2 h2
    have := plan_reads (N := N) hsel hS is listed a hN hb.1.1 hb.1.2 (fun w' hS' => h1 w' hS' (· = A) rfl) this
    rw [show planLen (.rd is :: r) = planLen r + is.length from Nat.add_comm _ _]
    exact this
  | .ef i :: r, listed, a, w, hN, hS, hb, h => by
    simp only [planB, Bool.and_eq_true, decide_eq_true_eq, beq_iff_eq] at hb
    rw [show planLen (.ef i :: r) = planLen r + 1 from Nat.add_comm _ _]
    refine wpAnyH_all hb.1.1 (by simp) (fun j hj => ?_)
    simp at hj
    subst hj
    exact wpOp_mono (fun a' w' ⟨hs, hS', hp⟩ => ⟨hS', plan_run hsel r _ a' w' (by omega) hS' hb.2 hp⟩) (wpOp_size h)

/-- THE THEOREM: a region that draws its order, by a plan. -/
theorem wp_region_plan {id N : Nat} {l : List Oper} {a : Act} {w : World} (pl : List Stp) (S : World → Prop) (hm : P.follows .mixedOrders = true) (hsel : Region.noSelect l.toArray = true)
    (hlen : planLen pl = l.toArray.size) (hb : planB l.toArray N pl (Array.replicate l.toArray.size false) = true) (hN : N ≤ a.tmps.size) (hS : S w.drew)
    (h : wpPlan P l.toArray S Q pl a w.drew) : (Code.region id l.toArray true).wp P Q a w := by
  refine wp_region_noPanic (wp_region_held_drew (S := S) hm hS fun _ => ?_)
  have := plan_run hsel pl _ a w.drew hN hS hb h
  rw [hlen] at this; exact this

/-- What may follow an operation that does something. -/
def PlanQ (Q : Exit → Act → World → Prop) (next : Act → World → Prop) : Exit → Act → World → Prop
  | .normal, a, w => next a w
  | .outgrown, a, w => Q .outgrown a w
  | _, _, _ => False
theorem wp_q_mono {o : Oper} {a : Act} {w : World} {K : Act → World → Prop} {Q Q' : Exit → Act → World → Prop} (hq : ∀ e a w, e ≠ .normal → Q e a w → Q' e a w) (hh : o.wp P a w K Q) : o.wp P a w K Q' := by
  unfold Oper.wp at *
  generalize (execOp a.eval o).run P w = r at *
  cases r with
  | ok n w' =>
    cases n <;> simp only [Oper.upon] at hh ⊢ <;> try exact hh
    case enter f args =>
      refine Calls.mono hh fun e w'' he => ?_
      cases e with
      | returned u => exact he
      | panicked c => exact hq _ _ _ (by simp) he
      | outgrown => obtain ⟨a, w, h⟩ := he; exact ⟨a, w, hq _ _ _ (by simp) h⟩
  | halt x w' => cases x <;> simp only [Oper.upon] at hh ⊢; exact hq _ _ _ (by simp) hh
theorem plan_ef {i : Nat} {o : Oper} {r : List Stp} {a : Act} {w : World} (ho : ops[i]? = some o)
    (h : wpList P ops (PlanQ Q (fun a' w' => S w' ∧ wpPlan P ops S Q r a' w')) [o] a w) : wpPlan P ops S Q (.ef i :: r) a w := by
  show wpOp P ops (NoPanic Q) i _ a w
  unfold wpOp
  rw [ho]
  dsimp only
  unfold wpList at h
  have hq : ∀ e a w, e ≠ .normal → PlanQ Q (fun a' w' => S w' ∧ wpPlan P ops S Q r a' w') e a w → NoPanic Q e a w := by
    intro e a w he h
    cases e <;> first | exact absurd rfl he | exact h | exact (h : False).elim
  split at h
  · rename_i hw
    rw [if_pos hw]
    refine h.imp (fun h => ?_) (fun ⟨h1, a, w, h2⟩ => ⟨h1, a, w, h2⟩)
    exact Oper.wp_mono (fun a w h => h) (wp_q_mono hq h)
  · rename_i hw
    rw [if_neg hw]; exact h
theorem plan_rd {is : List Nat} {r : List Stp} {a A : Act} {w : World} (h : ∀ w', S w' → ∀ K : Act → Prop, K A → wpStill P ops w' K (opsAt ops is) a) (h2 : wpPlan P ops S Q r A w) : wpPlan P ops S Q (.rd is :: r) a w := ⟨A, h, h2⟩
theorem plan_nil {a : Act} {w : World} (h : Q .normal a w) : wpPlan P ops S Q [] a w := h
end
end Go.Proofs.YtjifdfhibkipnaaGreat
