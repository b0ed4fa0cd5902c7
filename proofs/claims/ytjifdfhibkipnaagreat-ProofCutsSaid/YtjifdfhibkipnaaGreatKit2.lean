/-
  A region that draws its order, walked by a plan, where its last operation (number L) may write what its reads lean on: every read comes ahead of it.
  Rows whose first cells are known; appends, and where the row lies behind them; a store of one cell.
  More plain facts on worlds and rows.
  append of a slice that only is read.
-/
import Derived.Test.YtjifdfhibkipnaaGreatPlan
import Derived.Test.YtjifdfhibkipnaaGreatBase
import Derived.Lib.ConvBytes
import Derived.Laws.BytesString
import Derived.Laws.IdiomStrings
import Derived.Laws.AppendOwnNone
namespace Go.Proofs.YtjifdfhibkipnaaGreat
open Go.RowKit

def wpAnyG (P : Program) (md : Region.Mode) (ops : Array Oper) (Q : Exit → Act → World → Prop) (S : World → Prop) (L : Nat) : Nat → Array Bool → Act → World → Prop
  | 0, listed, a, w => Region.ready md ops listed = [] ∧ Q .normal a w
  | fuel + 1, listed, a, w =>
    (Region.ready md ops listed = [] → Q .normal a w) ∧
    ∀ i ∈ Region.ready md ops listed, wpOp P ops Q i (fun a' w' => (i = L ∨ S w') ∧ wpAnyG P md ops Q S L fuel (listed.setIfInBounds i true) a' w') a w
def wpPlanL (P : Program) (ops : Array Oper) (S : World → Prop) (L : Nat) (Q : Exit → Act → World → Prop) : List Stp → Act → World → Prop
  | [], a, w => Q .normal a w
  | .rd is :: r, a, w => ∃ A, (∀ w', S w' → ∀ K : Act → Prop, K A → wpStill P ops w' K (opsAt ops is) a) ∧ wpPlanL P ops S L Q r A w
  | .ef i :: r, a, w => wpOp P ops (NoPanic Q) i (fun a' w' => (i = L ∨ S w') ∧ wpPlanL P ops S L Q r a' w') a w
def depB (ops : Array Oper) (L i : Nat) : Bool := match ops[L]? with
  | none => true
  | some o => o.after.any fun e => Region.binds .any e && e.on == i
def depsB (ops : Array Oper) (L : Nat) : List Stp → Bool
  | [] => true
  | .rd is :: r => is.all (depB ops L) && depsB ops L r
  | .ef i :: r => (!(i == L) || r.isEmpty) && depsB ops L r

section
variable {P : Program} {ops : Array Oper} {Q : Exit → Act → World → Prop} {S : World → Prop} {L : Nat}
theorem wpAny_of_G {md : Region.Mode} : ∀ (fuel : Nat) (listed : Array Bool) (a : Act) (w : World), wpAnyG P md ops Q S L fuel listed a w → wpAny P md ops Q fuel listed a w
  | 0, _, _, _, h => h
  | fuel + 1, _, _, _, h => ⟨h.1, fun i hi => wpOp_mono (fun a' w' h' => wpAny_of_G fuel _ a' w' h'.2) (h.2 i hi)⟩
theorem wpAnyG_done {md : Region.Mode} {listed : Array Bool} {a : Act} {w : World} (hr : Region.ready md ops listed = []) (h : Q .normal a w) : ∀ fuel, wpAnyG P md ops Q S L fuel listed a w
  | 0 => ⟨hr, h⟩
  | _ + 1 => ⟨fun _ => h, fun i hi => by rw [hr] at hi; cases hi⟩
theorem wpAnyG_all {md : Region.Mode} {rs : List Nat} {fuel : Nat} {listed : Array Bool} {a : Act} {w : World} (hr : Region.ready md ops listed = rs) (hne : rs ≠ [])
    (h : ∀ i ∈ rs, wpOp P ops Q i (fun a' w' => (i = L ∨ S w') ∧ wpAnyG P md ops Q S L fuel (listed.setIfInBounds i true) a' w') a w) : wpAnyG P md ops Q S L (fuel + 1) listed a w :=
  ⟨fun e => absurd (hr ▸ e) hne, fun i hi => h i (hr ▸ hi)⟩
theorem wpAnyG_first {md : Region.Mode} {i : Nat} {oi : Oper} {v : Value} {Q : Exit → Act → World → Prop} (hi : ops[i]? = some oi) (hsel : ∀ (j : Nat) (o : Oper) cs b, ops[j]? = some o → o.op ≠ .select cs b)
    (hdep : ∀ oL, ops[L]? = some oL → ∃ e ∈ oL.after, Region.binds md e = true ∧ e.on = i)
    (hQ : ∀ c a w, Q (.panic c) (a.put oi.dst v) w → Q (.panic c) a w) :
    ∀ (fuel : Nat) (listed : Array Bool) (a : Act) (w : World),
      (∀ (j : Nat) oj, ops[j]? = some oj → j ≠ i → listed.getD j true = false → (∀ e ∈ oj.after, Region.binds md e = true → e.on ≠ i) → oi.apart ops oj = true) →
      i ∈ Region.ready md ops listed → YieldsQ P ops S oi v a → S w →
      wpAnyG P md ops Q S L fuel (listed.setIfInBounds i true) (a.put oi.dst v) w → wpAnyG P md ops Q S L (fuel + 1) listed a w := by
  intro fuel
  induction fuel with
  | zero =>
    intro listed a w _ hr hy hS H
    refine ⟨fun h => (by rw [h] at hr; cases hr), fun j hj => ?_⟩
    by_cases hji : j = i
    · subst hji; exact hy.wpOp hi hS ⟨.inr hS, H⟩
    · have := ready_mono hj hji
      rw [H.1] at this
      cases this
  | succ fuel ih =>
    intro listed a w hfree hr hy hS H
    refine ⟨fun h => (by rw [h] at hr; cases hr), fun j hj => ?_⟩
    by_cases hji : j = i
    · subst hji; exact hy.wpOp hi hS ⟨.inr hS, H⟩
    · have h1 := H.2 j (ready_mono hj hji)
      obtain ⟨hjun, oj, hoj, hall⟩ := mem_ready.1 hj
      have hnot : ∀ e ∈ oj.after, Region.binds md e = true → e.on ≠ i := fun e he hb heq => by
        have h1 := hall e he hb
        have h0 := (mem_ready.1 hr).1
        rw [heq] at h1
        rcases Nat.lt_or_ge i listed.size with h' | h'
        · simp [h'] at h0 h1; rw [h0] at h1; cases h1
        · simp [Array.getElem?_eq_none h'] at h1
      have h2 := wpOp_putQ hoj (hfree j oj hoj hji hjun hnot) (fun cs b => hsel i oi cs b hi) (fun cs b => hsel j oj cs b hoj) hQ hy h1
      have hfree' : ∀ (k : Nat) ok, ops[k]? = some ok → k ≠ i → (listed.setIfInBounds j true).getD k true = false →
          (∀ e ∈ ok.after, Region.binds md e = true → e.on ≠ i) → oi.apart ops ok = true := fun k ok hk hki hun hno => by
        refine hfree k ok hk hki ?_ hno
        by_cases hjk : j = k
        · subst hjk; exact hjun
        · rw [getD_set_ne true hjk] at hun; exact hun
      have hjL : j ≠ L := fun e => by
        obtain ⟨e', h1, h2, h3⟩ := hdep oj (by rw [← e]; exact hoj)
        exact hnot e' h1 h2 h3
      refine wpOp_mono (fun a' w' h3 => ⟨h3.2.1, ih (listed.setIfInBounds j true) a' w' hfree' (ready_mono hr (Ne.symm hji)) h3.1 (h3.2.1.resolve_left hjL) ?_⟩) h2
      rw [Array.setIfInBounds_comm _ _ hji]
      exact h3.2.2

theorem planL_reads {N : Nat} {w : World} (hsel : Region.noSelect ops = true) (hS : S w) {A : Act} {fuel : Nat} :
    ∀ (is : List Nat) (listed : Array Bool) (a : Act), N ≤ a.tmps.size → rdsB ops N is = true → planB.goB ops is listed = true → is.all (depB ops L) = true →
      (∀ w', S w' → wpStill P ops w' (· = A) (opsAt ops is) a) →
      wpAnyG P .any ops (NoPanic Q) S L fuel (is.foldl (fun l i => l.setIfInBounds i true) listed) A w →
      wpAnyG P .any ops (NoPanic Q) S L (fuel + is.length) listed a w
  | [], listed, a, _, _, _, _, hst, h => by
    have : a = A := hst w hS
    subst this; exact h
  | i :: is, listed, a, hN, hr, hg, hdp, hst, h => by
    simp only [List.all_cons, Bool.and_eq_true] at hdp
    obtain ⟨hdi, hdr⟩ := hdp
    have hdep : ∀ oL, ops[L]? = some oL → ∃ e ∈ oL.after, Region.binds .any e = true ∧ e.on = i := fun oL hoL => by
      unfold depB at hdi
      rw [hoL] at hdi
      simp only [Array.any_eq_true] at hdi
      obtain ⟨x, hx, hb⟩ := hdi
      simp only [Bool.and_eq_true, beq_iff_eq] at hb
      exact ⟨_, Array.getElem_mem hx, hb.1, hb.2⟩
    simp only [planB.goB, Bool.and_eq_true, decide_eq_true_eq] at hg
    obtain ⟨⟨⟨hi, hrd⟩, hfr⟩, hg'⟩ := hg
    simp only [rdsB, Bool.and_eq_true] at hr
    obtain ⟨hd, hr'⟩ := hr
    have ho : ops[i]? = some ops[i] := Array.getElem?_eq_getElem hi
    have hop : opsAt ops (i :: is) = ops[i] :: opsAt ops is := by simp [opsAt, ho]
    obtain ⟨d, hdd, hd2⟩ : ∃ d, dstAt ops i = some d ∧ (decide (d < N) && is.all fun j => !(dstAt ops j == some d)) = true := by
      cases hq : dstAt ops i with
      | none => rw [hq] at hd; simp at hd
      | some d => rw [hq] at hd; exact ⟨d, rfl, by simpa using hd⟩
    simp only [Bool.and_eq_true, decide_eq_true_eq, List.all_eq_true] at hd2
    have hdst : ops[i].dst = some d := by simpa [dstAt, ho] using hdd
    have hsz : d < a.tmps.size := Nat.lt_of_lt_of_le hd2.1 hN
    have hne : ∀ o ∈ opsAt ops is, o.dst ≠ some d := by
      intro o ho' e
      simp only [opsAt, List.mem_filterMap] at ho'
      obtain ⟨j, hj, hjo⟩ := ho'
      have := hd2.2 j hj
      simp [dstAt, hjo, e] at this
    -- the value that it leaves, whatever the world
    have key : ∃ v, YieldsQ P ops S ops[i] v a ∧ ∀ w', S w' → wpStill P ops w' (· = A) (opsAt ops is) (a.put ops[i].dst v) := by
      by_cases hw : Region.wanted ops[i] (yielded ops a.tmps) = true
      · have hv : ∀ w', S w' → ∃ v, asV P w' v ((execOp a.eval ops[i]).run P w') ∧ wpStill P ops w' (· = A) (opsAt ops is) (a.put ops[i].dst v) := by
          intro w' hS'
          have h1 := hst w' hS'
          rw [hop] at h1
          unfold wpStill at h1
          rw [if_pos hw] at h1
          unfold Oper.still at h1
          cases hres : (execOp a.eval ops[i]).run P w' with
          | halt x w'' => rw [hres] at h1; cases x <;> simp [Oper.stillUpon] at h1
          | ok n w'' =>
            rw [hres] at h1
            cases n with
            | value u => exact ⟨u, ⟨h1.1, rfl⟩, h1.2⟩
            | skip => exact ⟨undef, ⟨h1.1, rfl⟩, h1.2⟩
            | enter f args => obtain ⟨h2, v, h3, h4⟩ := h1; exact ⟨v, ⟨h2, h3⟩, h4⟩
            | _ => simp [Oper.stillUpon] at h1
        refine ⟨A.tmps.getD d undef, .inl ⟨hw, fun w' hS' => ?_⟩, fun w' hS' => ?_⟩
        all_goals
          obtain ⟨v, hv1, hv2⟩ := hv w' hS'
          have hv3 := hv2
          rw [hdst] at hv3
          have e := (still_keeps (opsAt ops is) _ hne hv3).1
          rw [put_getD a d v hsz] at e
          rw [e]
          assumption
      · refine ⟨undef, .inr ⟨by simpa using hw, rfl⟩, fun w' hS' => ?_⟩
        have h1 := hst w' hS'
        rw [hop] at h1
        unfold wpStill at h1
        rw [if_neg hw] at h1
        exact h1
    obtain ⟨v, hy, hst'⟩ := key
    have := planL_reads hsel hS is (listed.setIfInBounds i true) (a.put ops[i].dst v) (by rw [put_size]; exact hN) hr' hg' hdr hst' h
    exact wpAnyG_first ho (Region.noSelect_spec hsel) hdep noPanic_put (fuel + is.length) listed a w (Region.free_spec ho hfr) (by simpa using hrd) hy hS this

theorem planL_run {N : Nat} (hsel : Region.noSelect ops = true) : ∀ (pl : List Stp) (listed : Array Bool) (a : Act) (w : World), N ≤ a.tmps.size → (S w ∨ pl = []) → depsB ops L pl = true → planB ops N pl listed = true →
      wpPlanL P ops S L Q pl a w → wpAnyG P .any ops (NoPanic Q) S L (planLen pl) listed a w
  | [], listed, a, w, _, _, _, hb, h => by
    simp only [planB, List.isEmpty_iff] at hb
    exact wpAnyG_done (Q := NoPanic Q) hb h _
  | .rd is :: r, listed, a, w, hN, hS, hdp, hb, h => by
    have hS : S w := hS.resolve_right (by simp)
    simp only [depsB, Bool.and_eq_true] at hdp
    simp only [planB, Bool.and_eq_true] at hb
    obtain ⟨A, h1, h2⟩ := h
    have hA : A.tmps.size = a.tmps.size := by
      have := h1 w hS (· = A) rfl
      have key : ∀ (l : List Oper) (a : Act), wpStill P ops w (· = A) l a → A.tmps.size = a.tmps.size := by
        intro l
        induction l with
        | nil => intro a h; have : a = A := h; rw [this]
        | cons o l ih =>
          intro a h
          unfold wpStill at h
          split at h
          · unfold Oper.still at h
            generalize (execOp a.eval o).run P w = res at h
            cases res with
            | halt x w' => cases x <;> simp [Oper.stillUpon] at h
            | ok n w' =>
              cases n with
              | value v => have := ih _ h.2; rwa [put_size] at this
              | skip => have := ih _ h.2; rwa [put_size] at this
              | enter f args => obtain ⟨_, v, _, hv⟩ := h; have := ih _ hv; rwa [put_size] at this
              | _ => simp [Oper.stillUpon] at h
          · have := ih _ h; rwa [put_size] at this
      exact key _ _ this
    have := planL_run hsel r _ A w (by omega) (.inl hS) hdp.2 hb.2 h2
    have := planL_reads (N := N) hsel hS is listed a hN hb.1.1 hb.1.2 hdp.1 (fun w' hS' => h1 w' hS' (· = A) rfl) this
    rw [show planLen (.rd is :: r) = planLen r + is.length from Nat.add_comm _ _]
    exact this
  | .ef i :: r, listed, a, w, hN, _, hdp, hb, h => by
    simp only [depsB, Bool.and_eq_true, Bool.or_eq_true, Bool.not_eq_true', beq_eq_false_iff_ne, List.isEmpty_iff] at hdp
    simp only [planB, Bool.and_eq_true, decide_eq_true_eq, beq_iff_eq] at hb
    rw [show planLen (.ef i :: r) = planLen r + 1 from Nat.add_comm _ _]
    refine wpAnyG_all hb.1.1 (by simp) (fun j hj => ?_)
    simp at hj
    subst hj
    refine wpOp_mono (fun a' w' ⟨hs, hS', hp⟩ => ⟨hS', planL_run hsel r _ a' w' (by omega) ?_ hdp.2 hb.2 hp⟩) (wpOp_size h)
    rcases hS' with e | e
    · exact .inr (hdp.1.resolve_left (fun q => q e))
    · exact .inl e

/-- THE THEOREM: a region that draws its order, by a plan; operation L is the last one, and may write what the reads lean on. -/
theorem wp_region_planL {id N : Nat} {l : List Oper} {a : Act} {w : World} (pl : List Stp) (L : Nat) (S : World → Prop) (hm : P.follows .mixedOrders = true) (hsel : Region.noSelect l.toArray = true)
    (hlen : planLen pl = l.toArray.size) (hd : depsB l.toArray L pl = true) (hb : planB l.toArray N pl (Array.replicate l.toArray.size false) = true) (hN : N ≤ a.tmps.size) (hS : S w.drew)
    (h : wpPlanL P l.toArray S L Q pl a w.drew) : (Code.region id l.toArray true).wp P Q a w := by
  refine wp_region_noPanic (wp_region_any hm (wpAny_of_G (S := S) (L := L) _ _ _ _ ?_))
  have := planL_run hsel pl _ a w.drew hN (.inl hS) hd hb h
  rw [hlen] at this; exact this
theorem planL_ef {i : Nat} {o : Oper} {r : List Stp} {a : Act} {w : World} (ho : ops[i]? = some o)
    (h : wpList P ops (PlanQ Q (fun a' w' => (i = L ∨ S w') ∧ wpPlanL P ops S L Q r a' w')) [o] a w) : wpPlanL P ops S L Q (.ef i :: r) a w := by
  show wpOp P ops (NoPanic Q) i _ a w
  unfold wpOp
  rw [ho]
  dsimp only
  unfold wpList at h
  have hq : ∀ e a w, e ≠ .normal → PlanQ Q (fun a' w' => (i = L ∨ S w') ∧ wpPlanL P ops S L Q r a' w') e a w → NoPanic Q e a w := by
    intro e a w he h
    cases e <;> first | exact absurd rfl he | exact h | exact (h : False).elim
  split at h
  · rename_i hw
    rw [if_pos hw]
    refine h.imp (fun h => ?_) (fun ⟨h1, a, w, h2⟩ => ⟨h1, a, w, h2⟩)
    exact Oper.wp_mono (fun a w h => h) (wp_q_mono hq h)
  · rename_i hw
    rw [if_neg hw]; exact h
theorem planL_rd {is : List Nat} {r : List Stp} {a A : Act} {w : World} (h : ∀ w', S w' → ∀ K : Act → Prop, K A → wpStill P ops w' K (opsAt ops is) a) (h2 : wpPlanL P ops S L Q r A w) : wpPlanL P ops S L Q (.rd is :: r) a w := ⟨A, h, h2⟩
theorem planL_nil {a : Act} {w : World} (h : Q .normal a w) : wpPlanL P ops S L Q [] a w := h
end
end Go.Proofs.YtjifdfhibkipnaaGreat

namespace Go.Proofs.YtjifdfhibkipnaaGreat
open Go.RowKit

/-- A row whose first cells are known. -/
def RowAt (w : World) (g : Nat) (t : TypeId) (xs : List Value) : Prop := ∃ rest : List Value, w.heap[g]? = some (.cells (xs ++ rest).toArray t (0, 0))
theorem RowAt.cell {w : World} {g : Nat} {t : TypeId} {xs : List Value} (h : RowAt w g t xs) {i : Nat} {v : Value} (hv : xs[i]? = some v) : w.cell? ⟨g, i, none⟩ = some v := by
  obtain ⟨rest, h⟩ := h
  refine cell_of h ?_
  have hi : i < xs.length := (List.getElem?_eq_some_iff.1 hv).1
  rw [List.getElem?_toArray, List.getElem?_append_left hi]; exact hv
theorem RowAt.frozen {w : World} {g : Nat} {t : TypeId} {xs : List Value} (h : RowAt w g t xs) (i : Nat) : w.frozen? ⟨g, i, none⟩ = false := by
  obtain ⟨rest, h⟩ := h
  exact frozen_of h
theorem RowAt.lt {w : World} {g : Nat} {t : TypeId} {xs : List Value} (h : RowAt w g t xs) : g < w.heap.size := by
  obtain ⟨rest, h⟩ := h
  exact lt_of_obj h
theorem RowAt.chg {S : Nat → Prop} {w w' : World} {g : Nat} {t : TypeId} {xs : List Value} (h : RowAt w g t xs) (hc : Chg S w w') (hs : ¬ S g) : RowAt w' g t xs := by
  obtain ⟨rest, h⟩ := h
  exact ⟨rest, hc.obj hs h⟩
theorem RowAt.set {w : World} {g : Nat} {t : TypeId} {xs : List Value} (h : RowAt w g t xs) {i : Nat} (hi : i < xs.length) (v : Value) : RowAt (w.setCell ⟨g, i, none⟩ v) g t (xs.set i v) := by
  obtain ⟨rest, h⟩ := h
  refine ⟨rest, ?_⟩
  rw [obj_setCell h]
  simp [List.set_append_left _ _ hi]
theorem rowAt_own {w : World} {base : Nat} {e : TypeId} {v : Value} {n : Nat} {xs : List Value} (h : w.ownsRow base e 1 v n xs) (hn : 0 < n) :
    ∃ g cap, v = .slice (some ⟨g, 0, none⟩) n cap ∧ base ≤ g ∧ RowAt w g e xs := by
  obtain ⟨h1, h2 | ⟨g, cap, cur, rfl, hg, hh, q1, q2, q3, q4⟩⟩ := h
  · omega
  · refine ⟨g, cap, rfl, hg, cur.toList.drop n, ?_⟩
    rw [hh]
    have : xs ++ cur.toList.drop n = cur.toList := by rw [← q4, Nat.mul_one, List.take_append_drop]
    rw [this, Array.toArray_toList]

/-- Where the slice's row lies behind an append: where it lay, or it is new. -/
def SameOrNew (w : World) (v v' : Value) : Prop := v'.ownBlock = v.ownBlock ∨ ∀ k, v'.ownBlock = some k → w.heap.size ≤ k
theorem run_append_fresh {P : Program} (w : World) (base : Nat) (t ty e : TypeId) (i : TypeInfo) (z : Value) (size bytes : Nat) (ht : P.underlying t = some (.slice e)) (hi : P.info? e = some i) (hz : i.zero = some z)
    (hsize : i.size = size) (hby : i.bytes = bytes) (hzs : z.cells.size = size) (hsz : 0 < size)
    (v : Value) (n : Nat) (xs : List Value) (hown : w.ownsRow base e size v n xs)
    (a : Addr) (m c : Nat) (news : List Value) (hl : news.length = m * size) (hnews : ∀ j u, news[j]? = some u → w.cell? (a.add j) = some u) (h1 : ∀ u ∈ news, u.oneCell' = true)
    (h63 : n + m ≤ maxLen) (hbytes : (n + m) * bytes ≤ 140737488355328) (hbase : base ≤ w.heap.size) :
    ∃ v' w', (Builtin.append_ #[t, t] ty #[v, .slice (some a) m c]).run P w = .ok v' w' ∧ w'.ownsRow base e size v' (n + m) (xs ++ news) ∧ w.grownBy w' v.ownBlock ∧ SameOrNew w v v' := by
  obtain ⟨v', w', hr, r1, r2, _⟩ := run_append_own (P := P) w base t ty e i z size bytes ht hi hz hsize hby hzs hsz v n xs hown a m c news hl hnews h1 h63 hbytes hbase
  refine ⟨v', w', hr, r1, r2, ?_⟩
  have hown0 := hown
  rcases hown.2 with ⟨rfl, rfl⟩ | ⟨g, cap, cur, rfl, hbg, hg, hnc, hcm, hcs, htake⟩
  · have hx : xs = [] := List.eq_nil_of_length_eq_zero (by simpa using hown.1)
    subst hx
    obtain ⟨v2, w2, hr2, q1, _, _⟩ := run_append_own (P := P) w w.heap.size t ty e i z size bytes ht hi hz hsize hby hzs hsz (.slice none 0 0) 0 [] (World.ownsRow_nil _ _ _ _) a m c news hl hnews h1 h63 hbytes (Nat.le_refl _)
    rw [hr] at hr2
    cases hr2
    exact .inr fun k hk => (q1.lt k hk).1
  · subst hsize
    subst hby
    by_cases hroom : n + m ≤ cap
    · have hfit : n * i.size + news.length ≤ cur.size := by rw [hl, hcs, ← Nat.add_mul]; exact Nat.mul_le_mul_right _ hroom
      have hr2 := run_append_room (P := P) w t ty e i ht hi g n cap cur hg a m c news hl hnews h1 hroom hfit
      rw [hr] at hr2
      cases hr2
      exact .inl rfl
    · have hr2 := run_append_grow (P := P) w t ty e i z ht hi hz ⟨g, 0, none⟩ n cap xs hown0.1 (hown0.cells (g := g) rfl) a m c news hl hnews (by omega) (by simp only [maxLen] at h63; omega) (growslice_fits (by omega) hbytes)
      rw [hr] at hr2
      cases hr2
      exact .inr fun k hk => by simp [Value.ownBlock] at hk; omega
/-- 'append(s, x)' of one element, and where the row lies behind it. -/
theorem wpList_pushF {P : Program} {w : World} {ops : Array Oper} {rest : List Oper} {o : Oper} {a : Act} {Q : Exit → Act → World → Prop} (hgd : o.guard = none) (s x : Operand) (t : TypeId)
    (ho : o.op = .call { callee := .builtin .append, args := #[s, x], argTypes := #[t, t] }) (e : TypeId) (size bytes : Nat) (ht : P.underlying t = some (.slice e)) (hE : ElemInfo P e size bytes)
    (base : Nat) (v : Value) (n : Nat) (xs : List Value) (hs : a.eval s = v) (hown : w.ownsRow base e size v n xs)
    (g : Nat) (news : List Value) (tt : TypeId) (fz : Nat × Nat) (hx : a.eval x = .slice (some ⟨g, 0, none⟩) 1 1) (hg : w.heap[g]? = some (.cells news.toArray tt fz)) (hl : news.length = size) (h1 : ∀ u ∈ news, u.oneCell' = true)
    (hbytes : (n + 1) * bytes ≤ 140737488355328) (h63 : n + 1 ≤ maxLen) (hbase : base ≤ w.heap.size)
    (h : ∀ v' w', w'.ownsRow base e size v' (n + 1) (xs ++ news) → w.grownBy w' v.ownBlock → SameOrNew w v v' → wpList P ops Q rest (a.put o.dst v') w') : wpList P ops Q (o :: rest) a w := by
  obtain ⟨i, z, hi, hz, q1, q2, q3, q4⟩ := hE
  refine wpList_plain hgd fun K hK => ?_
  obtain ⟨v', w', hr, h2, h3, h4⟩ := run_append_fresh (P := P) w base t o.type e i z size bytes ht hi hz q1 q2 q3 q4 v n xs hown ⟨g, 0, none⟩ 1 1 news (by simpa using hl) (fun j u hj => by rw [addr_add]; exact cell_of hg (by simpa using hj)) h1 h63 hbytes hbase
  unfold Oper.wp execOp
  simp only [ho, resolve, invoke, builtin, Sem.run_bind, Sem.run_pure, Result.andThen_ok, List.map_toArray, List.map_cons, List.map_nil, hs, hx, hr]
  exact hK _ _ (h v' w' h2 h3 h4)

/-- A row of bytes of the call's own, not nil; its mark, if any, lies behind its end. -/
def MRow (w : World) (base : Nat) (e : TypeId) (v : Value) (xs : List Value) : Prop :=
  ∃ g cap cur fz, v = .slice (some ⟨g, 0, none⟩) xs.length cap ∧ base ≤ g ∧ w.heap[g]? = some (.cells cur e fz) ∧ (cur.size ≤ fz.1 ∨ fz = (0, 0)) ∧ xs.length ≤ cap ∧ cap ≤ maxLen ∧ cur.size = cap ∧ cur.toList.take xs.length = xs
theorem MRow.cell {w : World} {base : Nat} {e : TypeId} {v : Value} {xs : List Value} (h : MRow w base e v xs) : ∃ g cap, v = .slice (some ⟨g, 0, none⟩) xs.length cap ∧ base ≤ g ∧ xs.length ≤ cap ∧ cap ≤ maxLen ∧ ∀ j u, xs[j]? = some u → w.cell? ⟨g, j, none⟩ = some u := by
  obtain ⟨g, cap, cur, fz, rfl, hb, hg, _, h1, h2, h3, h4⟩ := h
  refine ⟨g, cap, rfl, hb, h1, h2, fun j u hj => cell_of hg ?_⟩
  rw [← h4, List.getElem?_take] at hj
  split at hj
  · simpa using hj
  · cases hj
theorem wpList_push_m {P : Program} {w : World} {ops : Array Oper} {rest : List Oper} {o : Oper} {a : Act} {Q : Exit → Act → World → Prop} (hgd : o.guard = none) (s x : Operand) (t : TypeId)
    (ho : o.op = .call { callee := .builtin .append, args := #[s, x], argTypes := #[t, t] }) (e : TypeId) (bytes : Nat) (ht : P.underlying t = some (.slice e)) (hE : ElemInfo P e 1 bytes)
    (base : Nat) (v : Value) (xs : List Value) (hs : a.eval s = v) (hown : MRow w base e v xs)
    (g : Nat) (new : Value) (tt : TypeId) (fz : Nat × Nat) (hx : a.eval x = .slice (some ⟨g, 0, none⟩) 1 1) (hg : w.heap[g]? = some (.cells #[new] tt fz)) (h1 : new.oneCell' = true)
    (hbytes : (xs.length + 1) * bytes ≤ 140737488355328) (h63 : xs.length + 1 ≤ maxLen) (hbase : base ≤ w.heap.size)
    (h : ∀ v' w', MRow w' base e v' (xs ++ [new]) → w.grownBy w' v.ownBlock → wpList P ops Q rest (a.put o.dst v') w') : wpList P ops Q (o :: rest) a w := by
  obtain ⟨i, z, hi, hz, q1, q2, q3, q4⟩ := hE
  obtain ⟨b, cap, cur, fz2, rfl, hb, hbb, hfz, k1, k2, k3, k4⟩ := hown
  refine wpList_plain hgd fun K hK => ?_
  have hnews : ∀ j u, [new][j]? = some u → w.cell? ((⟨g, 0, none⟩ : Addr).add j) = some u := fun j u hj => by rw [addr_add]; exact cell_of hg (by simpa using hj)
  have holds : ∀ j u, xs[j]? = some u → w.cell? ((⟨b, 0, none⟩ : Addr).add j) = some u := fun j u hj => by
    rw [addr_add, Nat.zero_add]; refine cell_of hbb ?_
    rw [← k4, List.getElem?_take] at hj
    split at hj
    · simpa using hj
    · cases hj
  suffices hr : ∃ v' w', (Builtin.append_ #[t, t] o.type #[.slice (some ⟨b, 0, none⟩) xs.length cap, .slice (some ⟨g, 0, none⟩) 1 1]).run P w = .ok v' w' ∧ MRow w' base e v' (xs ++ [new]) ∧ w.grownBy w' (some b) by
    obtain ⟨v', w', hr, h2, h3⟩ := hr
    unfold Oper.wp execOp
    simp only [ho, resolve, invoke, builtin, Sem.run_bind, Sem.run_pure, Result.andThen_ok, List.map_toArray, List.map_cons, List.map_nil, hs, hx, hr]
    exact hK _ _ (h v' w' h2 h3)
  by_cases hroom : xs.length + 1 ≤ cap
  · have hlt : xs.length < cur.size := by omega
    have hfr : w.frozen? ⟨b, xs.length, none⟩ = false := by
      obtain ⟨lo, hi2⟩ := fz2
      rcases hfz with hfz | hfz
      · simp only [World.frozen?, hbb, Bool.and_eq_false_iff, decide_eq_false_iff_not]
        left; simp only at hfz; omega
      · cases hfz; simp [World.frozen?, hbb]
    have hcell : w.cell? ⟨b, xs.length, none⟩ = some cur[xs.length] := by simp [World.cell?, hbb, hlt]
    have hf := run_firstCells_some (P := P) w i.size 1 ⟨g, 0, none⟩ 1 1 [new] (by simp [q1]) hnews
    have hst : (store ⟨b, xs.length, none⟩ new).run P w = .ok () (w.setCell ⟨b, xs.length, none⟩ new) := by
      rw [run_store P w _ new _ h1, hcell]; simp [hfr]
    have hst2 : (storeCells ⟨b, xs.length, none⟩ [new] 0).run P w = .ok () (w.setCell ⟨b, xs.length, none⟩ new) := by
      simp [storeCells, addr_add, hst]
    rw [q1] at hf
    refine ⟨.slice (some ⟨b, 0, none⟩) (xs.length + 1) cap, w.setCell ⟨b, xs.length, none⟩ new, ?_, ?_, ?_⟩
    · simp [Builtin.append_, run_underlying ht, sizeOf, typeInfo, hi, Builtin.lenOf, hroom, hf, Addr.add_lit, q1, hst2]
    · refine ⟨b, cap, cur.setIfInBounds xs.length new, fz2, by simp, hb, obj_setCell hbb _, by simpa using hfz, by simpa using hroom, k2, by simpa using k3, ?_⟩
      rw [List.length_append, List.length_singleton, Array.toList_setIfInBounds]
      rw [List.take_succ_eq_append_getElem (by simpa using hlt), List.take_set_of_le (Nat.le_refl _), k4]
      simp
    · exact ⟨rfl, rfl, rfl, by simp [World.setCell], fun k _ hk => Below.heap_setCell _ _ _ _ (fun e => hk (by simp [e]))⟩
  · have hr := run_append_grow (P := P) w t o.type e i z ht hi hz ⟨b, 0, none⟩ xs.length cap xs (by simp [q1]) holds ⟨g, 0, none⟩ 1 1 [new] (by simp [q1]) hnews (by omega) (by simp only [maxLen] at h63; omega) (growslice_fits (by omega) (by rw [q2]; exact hbytes))
    have hge := grownCap_ge w (xs.length + 1) cap e
    have hcm2 : grownCap w (xs.length + 1) cap e ≤ maxLen := grownCap_le_maxLen w (xs.length + 1) cap e h63
    refine ⟨_, _, hr, ⟨w.heap.size, _, _, (0, 0), by simp, hbase, heap_alloc_new w.drew _, .inr rfl, by simpa using hge, hcm2, ?_, ?_⟩, ⟨rfl, rfl, rfl, by simp, fun k hk _ => Below.heap_alloc w.drew _ k hk⟩⟩
    · simp only [Array.size_append, List.size_toArray, size_zeroCells, q3, List.length_singleton]; omega
    · simp only [Array.toList_append, List.append_assoc]
      rw [← List.append_assoc]
      exact List.take_left
/-- A store of one cell: the world behind it has a name of its own. -/
theorem wpList_store_one {P : Program} {ops : Array Oper} {w : World} {Q : Exit → Act → World → Prop} {a : Act} {o : Oper} {rest : List Oper} (hgd : o.guard = none) (ty : TypeId) (x y : Operand) (ho : o.op = .store ty x y)
    (g off : Nat) (hx : a.eval x = .pointer (some ⟨g, off, none⟩)) (v : Value) (hy : a.eval y = v) (hv : v.cells = #[v]) (h1 : v.oneCell' = true) (hi : (P.info? ty).map (·.size) = some 1)
    (old : Value) (hc : w.cell? ⟨g, off, none⟩ = some old) (hf : w.frozen? ⟨g, off, none⟩ = false)
    (h : ∀ w', w' = w.setCell ⟨g, off, none⟩ v → wpList P ops Q rest (a.put o.dst undef) w') : wpList P ops Q (o :: rest) a w := by
  refine wpList_plain hgd fun K hK => ?_
  have hst : (storeCells ⟨g, off, none⟩ [v] 0).run P w = .ok () (w.setCell ⟨g, off, none⟩ v) := by
    have : (store ⟨g, off, none⟩ v).run P w = .ok () (w.setCell ⟨g, off, none⟩ v) := by rw [run_store P w _ v _ h1, hc]; simp [hf]
    simp [storeCells, addr_add, this]
  cases hq : P.info? ty with
  | none => simp [hq] at hi
  | some i =>
    have hin : i.size = 1 := by simpa [hq] using hi
    unfold Oper.wp execOp
    simp only [ho, hx, hy, Instr.storeAt, Instr.sureAddr, storeVar, hv]
    simp [sizeOf, typeInfo, hq, hin, hst]
    exact hK _ _ (h _ rfl)
theorem cell_chg {S : Nat → Prop} {w w' : World} {b o : Nat} {v : Value} (hc : Chg S w w') (hs : ¬ S b) (h : w.cell? ⟨b, o, none⟩ = some v) : w'.cell? ⟨b, o, none⟩ = some v := by
  rw [← h]; exact World.cell?_of_block (w := w) (hc.block b (World.block_lt_of_cell? w _ h) hs)
def slen : Value → Nat
  | .slice _ n _ => n
  | _ => 0
theorem own_empty (w : World) (base : Nat) (e : TypeId) (size : Nat) (hb : base ≤ w.heap.size) : (w.alloc (.cells #[] e)).ownsRow base e size (.slice (some ⟨w.heap.size, 0, none⟩) 0 0) 0 [] :=
  ⟨by simp, .inr ⟨w.heap.size, 0, #[], rfl, hb, obj_alloc_new _ _, Nat.le_refl _, by unfold maxLen; omega, by simp, by simp⟩⟩
def Apart (v u : Value) : Prop := ∀ x, v.ownBlock = some x → u.ownBlock ≠ some x
theorem Apart.symm {v u : Value} (h : Apart v u) : Apart u v := fun x h1 h2 => h x h2 h1
theorem own_shape {w : World} {base : Nat} {e : TypeId} {size n : Nat} {xs : List Value} {v : Value} (h : w.ownsRow base e size v n xs) : ∃ a c, v = .slice a n c := by
  obtain ⟨_, ⟨rfl, rfl⟩ | ⟨g, cap, cur, rfl, _⟩⟩ := h
  · exact ⟨_, _, rfl⟩
  · exact ⟨_, _, rfl⟩
theorem size_list (s : ByteArray) : s.data.toList.length = s.size := by rw [Array.length_toList]; rfl
theorem list_eq_getD {α : Type} {l m : List α} (z : α) (hl : l.length = m.length) (h : ∀ i, i < l.length → l.getD i z = m.getD i z) : l = m := by
  apply List.ext_getElem hl
  intro i h1 h2
  have := h i h1
  rw [List.getD_eq_getElem?_getD, List.getD_eq_getElem?_getD, List.getElem?_eq_getElem h1, List.getElem?_eq_getElem h2] at this
  exact this
end Go.Proofs.YtjifdfhibkipnaaGreat

namespace Go.Proofs.YtjifdfhibkipnaaGreat
open Go.RowKit

theorem Chg.next {S T : Nat → Prop} {a b c : World} (h : Chg S a b) (k : Chg T b c) (hs : ∀ i, i < a.heap.size → T i → S i) : Chg S a c :=
  ⟨k.os.trans h.os, k.tape.trans h.tape, k.output.trans h.output, Nat.le_trans h.size k.size, fun i hi hn => (k.block i (Nat.lt_of_lt_of_le hi h.size) (fun e => hn (hs i hi e))).trans (h.block i hi hn)⟩
theorem quiet_at {P : Program} {f : FuncId} {args : Array Value} {w : World} {v : Value} (h : ∀ n, Calls P f args (w.drewN n) fun e w' => e = .returned v ∧ w.drewN n = w') {n : Nat} : Calls P f args (w.drewN n) fun e w'' => e = .returned v ∧ ∃ m, w'' = w.drewN m :=
  (h n).mono fun _ _ ⟨he, hm⟩ => ⟨he, n, hm.symm⟩
theorem own_some {w : World} {base : Nat} {e : TypeId} {size n c m : Nat} {a : Option Addr} {xs : List Value} (h : w.ownsRow base e size (.slice a n c) m xs) (hn : 0 < m) : ∃ g, a = some ⟨g, 0, none⟩ := by
  obtain ⟨_, ⟨_, rfl⟩ | ⟨g, cap, cur, e, _⟩⟩ := h
  · omega
  · cases e; exact ⟨g, rfl⟩
theorem RowAt.some {w : World} {g : Nat} {t : TypeId} {xs : List Value} (h : RowAt w g t xs) {i : Nat} (hi : i < xs.length) : ∃ v, w.cell? ⟨g, i, none⟩ = some v := ⟨_, h.cell (List.getElem?_eq_getElem hi)⟩
/-- 'append(s, x..)' of elements that lie in a block of their own ('buildSlice' ahead of it). -/
theorem wpList_pushN {P : Program} {w : World} {ops : Array Oper} {rest : List Oper} {o : Oper} {a : Act} {Q : Exit → Act → World → Prop} (hgd : o.guard = none) (s x : Operand) (t : TypeId)
    (ho : o.op = .call { callee := .builtin .append, args := #[s, x], argTypes := #[t, t] }) (e : TypeId) (size bytes : Nat) (ht : P.underlying t = some (.slice e)) (hE : ElemInfo P e size bytes)
    (base : Nat) (v : Value) (n : Nat) (xs : List Value) (hs : a.eval s = v) (hown : w.ownsRow base e size v n xs)
    (g m : Nat) (news : List Value) (tt : TypeId) (fz : Nat × Nat) (hx : a.eval x = .slice (some ⟨g, 0, none⟩) m m) (hg : w.heap[g]? = some (.cells news.toArray tt fz)) (hl : news.length = m * size) (h1 : ∀ u ∈ news, u.oneCell' = true)
    (hbytes : (n + m) * bytes ≤ 140737488355328) (h63 : n + m ≤ maxLen) (hbase : base ≤ w.heap.size)
    (h : ∀ v' w', w'.ownsRow base e size v' (n + m) (xs ++ news) → w.grownBy w' v.ownBlock → wpList P ops Q rest (a.put o.dst v') w') : wpList P ops Q (o :: rest) a w := by
  obtain ⟨i, z, hi, hz, q1, q2, q3, q4⟩ := hE
  refine wpList_append_own w hgd s x t ho base e i z size bytes ht hi hz q1 q2 q3 q4 v n xs hs hown ⟨g, 0, none⟩ m m news hx hl ?_ h1 h63 hbytes hbase (fun v' w' h2 h3 _ => h v' w' h2 h3)
  intro j u hj
  rw [addr_add]
  exact cell_of hg (by simpa using hj)
theorem obj_alloc2 (w : World) (o p : Obj) : ((w.alloc o).alloc p).heap[w.heap.size + 1]? = some p := by
  have := obj_alloc_new (w.alloc o) p
  simpa using this
theorem ext_mid (s : ByteArray) (a b : Nat) : (s.extract a b).data.toList = (s.data.toList.drop a).take (b - a) := by
  rw [ByteArray.data_extract, Array.toList_extract, List.extract_eq_take_drop]
theorem cut_eq (s x : ByteArray) (a : Nat) : ((s.extract (2 * a) (2 * a + x.size)).toList == x.toList) = ((s.data.toList.drop (2 * a)).take x.data.toList.length == x.data.toList) := by
  rw [ByteArray.toList_eq, ByteArray.toList_eq, ext_mid, size_list, show 2 * a + x.size - 2 * a = x.size from by omega]
end Go.Proofs.YtjifdfhibkipnaaGreat

namespace Go.Proofs.YtjifdfhibkipnaaGreat
open Go.RowKit

theorem wpList_pushS {P : Program} {w : World} {ops : Array Oper} {rest : List Oper} {o : Oper} {a : Act} {Q : Exit → Act → World → Prop} (hgd : o.guard = none) (s x : Operand) (t : TypeId)
    (ho : o.op = .call { callee := .builtin .append, args := #[s, x], argTypes := #[t, t] }) (e : TypeId) (size bytes : Nat) (ht : P.underlying t = some (.slice e)) (hE : ElemInfo P e size bytes)
    (base : Nat) (v : Value) (n : Nat) (xs : List Value) (hs : a.eval s = v) (hown : w.ownsRow base e size v n xs)
    (xa : Option Addr) (m c : Nat) (news : List Value) (hx : a.eval x = .slice xa m c) (hl : news.length = m * size) (hc : ∀ (j : Nat) u, news[j]? = some u → ∃ g o, xa = some ⟨g, o, none⟩ ∧ w.cell? ⟨g, o + j, none⟩ = some u) (hnil : xa = none → m = 0 ∧ c = 0)
    (h1 : ∀ u ∈ news, u.oneCell' = true) (hbytes : (n + m) * bytes ≤ 140737488355328) (h63 : n + m ≤ maxLen) (hbase : base ≤ w.heap.size)
    (h : ∀ v' w', w'.ownsRow base e size v' (n + m) (xs ++ news) → w.grownBy w' v.ownBlock → wpList P ops Q rest (a.put o.dst v') w') : wpList P ops Q (o :: rest) a w := by
  obtain ⟨i, z, hi, hz, q1, q2, q3, q4⟩ := hE
  cases xa with
  | none =>
    obtain ⟨rfl, rfl⟩ := hnil rfl
    have : news = [] := List.eq_nil_of_length_eq_zero (by rw [hl]; omega)
    subst this
    refine wpList_append_own_none hgd s x _ ho base _ i size ht hi v n xs hs hown hx ?_
    exact h v w (by simpa using hown) ⟨rfl, rfl, rfl, Nat.le_refl _, fun _ _ _ => rfl⟩
  | some ad =>
    refine wpList_append_own w hgd s x t ho base e i z size bytes ht hi hz q1 q2 q3 q4 v n xs hs hown ad m c news hx hl ?_ h1 h63 hbytes hbase (fun v' w' h2 h3 _ => h v' w' h2 h3)
    intro j u hj
    obtain ⟨g, oo, e1, hcell⟩ := hc j u hj
    cases e1
    rw [addr_add]; exact hcell
end Go.Proofs.YtjifdfhibkipnaaGreat
