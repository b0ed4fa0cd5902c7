/-
  Decide, in plain Lean: what is decided, and why.
-/
import Derived.Test.YthdfplafihmejaaGreatAAsk
import Derived.Test.YthdfplafihmejaaGreatQMake
namespace Go.Proofs.YthdfplafihmejaaGreat
open Go.RowKit Go.Maps

/-- What was decided: the answer, by which entry, whether by the short way, and else by which rules. -/
structure DDec where
 ans : Int
 entry : Int
 short : Bool
 rules : List BRul
def noneD : DDec := ⟨0, 0, false, []⟩
def listB (C : List BCert) (L : List BEnt) (c : List ByteArray) : Bool := setB c && (decide (newE [] L = 0) && C.all certB)
def shortP (op : Int) (c : List ByteArray) (x : BEnt) : Bool := decide (x.1 = op) && x.2.all (hasB c)
def shortI (op : Int) (c : List ByteArray) (L : List BEnt) : Nat := L.findIdx (shortP op c)
def argB (op b : Int) : Bool := (decide (0 ≤ op) && decide (op < 8)) && (decide (1 ≤ b) && decide (b ≤ 5000))
def runD (R : List BRul) (C : List BCert) (L : List BEnt) (op : Int) (c : List ByteArray) (b : Int) : DDec :=
 match acceptE R C b with
 | .ok s => ⟨(askGo s.rules b c op 0 0 L).1, (askGo s.rules b c op 0 0 L).2, false, s.rules⟩
 | .error _ => ⟨2, 0, false, []⟩
def decE (R : List BRul) (C : List BCert) (L : List BEnt) (op : Int) (c : List ByteArray) (b : Int) : Int × DDec :=
 if listB C L c = true then (if argB op b = true then (if 400 < R.length + needE C then (3, noneD)
   else if shortI op c L < L.length then (0, ⟨1, (shortI op c L : Int), true, []⟩) else (0, runD R C L op c b)) else (1, noneD)) else (2, noneD)
/-- Which words a word leads to by what the decision leans on. -/
def leadL (d : DDec) (b : Int) (x : ByteArray) : List ByteArray := if d.short = true then [x] else tellL d.rules x b
def toW (d : DDec) (b : Int) (c : List ByteArray) (x : ByteArray) : Nat := c.findIdx fun v => decide (v ∈ leadL d b x)
noncomputable def prfW (R : List BRul) (C : List BCert) (d : DDec) (b : Int) (c : List ByteArray) (x : ByteArray) : BProof := if d.short = true then ⟨[], []⟩ else (makeE R C x (c.getD (toW d b c x) ⟨#[]⟩) b).2
structure BWhy where
 entry : Int
 ways : List Int
 proofs : List BProof
def noWhy : BWhy := ⟨0, [], []⟩
def whoE (L : List BEnt) (i : Int) : List ByteArray := match L[i.toNat]? with
 | some x => x.2
 | none => []
noncomputable def whyE (R : List BRul) (C : List BCert) (L : List BEnt) (c : List ByteArray) (b : Int) (d : DDec) : BWhy :=
 ⟨d.entry, (whoE L d.entry).map (fun x => (toW d b c x : Int)), (whoE L d.entry).map (prfW R C d b c)⟩
noncomputable def explE (R : List BRul) (C : List BCert) (L : List BEnt) (op : Int) (c : List ByteArray) (b : Int) : Int × BWhy × Int :=
 if (decE R C L op c b).1 = 0 ∧ (decE R C L op c b).2.ans = 1 then (1, whyE R C L c b (decE R C L op c b).2, 0) else ((decE R C L op c b).2.ans, noWhy, (decE R C L op c b).1)
/-! what a run's error is -/
theorem accept_err12 {R : List BRul} {C : List BCert} {b e : Int} (h : acceptE R C b = .error e) (h0 : refE R.length C b = 0) : e = 12 := by
 have hC : C.all certB = true := by
  unfold refE at h0
  split at h0
  · assumption
  · cases h0
 have hb : ¬ (b < 1 ∨ 5000 < b) ∧ R.length + needE C ≤ 400 := by
  unfold refE at h0
  rw [if_pos hC] at h0
  split at h0
  · cases h0
  split at h0
  · cases h0
  exact ⟨by assumption, by omega⟩
 have back : ∀ (s : ASt) (c : BCert), AInv R C b s → c ∈ C → (backC s.rules b c).2 ≠ 0 → (backC s.rules b c).2 = 12 := by
  intro s c hs hc hne
  have hcm := certB_may (List.all_eq_true.1 hC c hc)
  have key : ∀ l : List ByteArray, (∀ x ∈ l, mayB x.data.toList = true) → (backE s.rules b (atomW c.sg) l).2 ≠ 0 → (backE s.rules b (atomW c.sg) l).2 = 12 := by
   intro l
   induction l with
   | nil => intro _ h; exact absurd rfl h
   | cons x l ih =>
    intro hl hne
    unfold backE at hne ⊢
    by_cases h1 : rowErr s.rules x b = 0
    · rw [if_pos h1] at hne ⊢
      by_cases h2 : tellB s.rules x (atomW c.sg) b = true
      · rw [if_pos h2] at hne ⊢
        exact ih (fun y hy => hl y (List.mem_cons_of_mem _ hy)) hne
      · rw [if_neg h2] at hne; exact absurd rfl hne
    · rw [if_neg h1]
      show rowErr s.rules x b = 12
      have ha : askErr (mayB x.data.toList) b s.rules.length = 0 := by
       have := hs.small hb.2
       unfold askErr
       rw [if_pos (hl x List.mem_cons_self), if_neg hb.1, if_neg (by omega)]
      unfold rowErr at h1 ⊢
      rw [if_pos ha] at h1 ⊢
      split at h1
      · rw [if_pos (by assumption)]
      · exact absurd rfl h1
  exact key c.fr (fun x hx => setB_mayC hcm.fr hx) hne
 have step : ∀ (s : ASt) (i : Nat), AInv R C b s → stepE C b s i = .error e → e = 12 := by
  intro s i hs he
  unfold stepE at he
  split at he
  · cases he
  split at he
  · cases he
  rename_i c hc
  split at he
  · split at he <;> cases he
  · rename_i hne
    cases he
    exact back s c hs (List.mem_of_getElem? hc) hne
 have pass : ∀ (n : Nat) (s : ASt), AInv R C b s → passE C b s n = .error e → e = 12 := by
  intro n
  induction n with
  | zero => intro s _ he; cases he
  | succ n ih =>
   intro s hs he
   unfold passE at he
   cases hp : passE C b s n with
   | error e' => rw [hp] at he; cases he; exact ih s hs hp
   | ok u => rw [hp] at he; exact step u n (hs.pass n hp).1 he
 have run : ∀ (f : Nat) (s : ASt), AInv R C b s → runE C b f s = .error e → e = 12 := by
  intro f
  induction f with
  | zero => intro s _ he; cases he
  | succ f ih =>
   intro s hs he
   unfold runE at he
   cases hp : passE C b s C.length with
   | error e' => rw [hp] at he; cases he; exact pass _ s hs hp
   | ok u =>
    rw [hp] at he
    simp only at he
    split at he
    · cases he
    · exact ih u (hs.pass _ hp).1 he
 unfold acceptE at h
 rw [if_pos h0] at h
 exact run _ _ (AInv.start R C b) h
theorem decE_bad {R : List BRul} {C : List BCert} {L : List BEnt} {op : Int} {c : List ByteArray} {b : Int} (h : (decE R C L op c b).1 ≠ 0) : (decE R C L op c b).2 = noneD := by
 unfold decE at h ⊢
 split
 · split
   · split
     · rfl
     · rename_i h1 h2 h3
       rw [if_pos h1, if_pos h2, if_neg h3] at h
       split at h <;> exact absurd rfl h
   · rfl
 · rfl
/-- What all that goes well says. -/
theorem decE_good {R : List BRul} {C : List BCert} {L : List BEnt} {op : Int} {c : List ByteArray} {b : Int} (h : (decE R C L op c b).1 = 0) : listB C L c = true ∧ argB op b = true ∧ R.length + needE C ≤ 400 ∧ (decE R C L op c b).2 = if shortI op c L < L.length then ⟨1, (shortI op c L : Int), true, []⟩ else runD R C L op c b := by
 unfold decE at h ⊢
 by_cases h1 : listB C L c = true
 · rw [if_pos h1] at h ⊢
   by_cases h2 : argB op b = true
   · rw [if_pos h2] at h ⊢
     by_cases h3 : 400 < R.length + needE C
     · rw [if_pos h3] at h; cases h
     · rw [if_neg h3]
       refine ⟨h1, h2, by omega, ?_⟩
       split <;> rfl
   · rw [if_neg h2] at h; cases h
 · rw [if_neg h1] at h; cases h
theorem listB_iff {C : List BCert} {L : List BEnt} {c : List ByteArray} : listB C L c = true ↔ setB c = true ∧ newE [] L = 0 ∧ C.all certB = true := by
 unfold listB
 rw [Bool.and_eq_true, Bool.and_eq_true, decide_eq_true_iff]
theorem argB_iff {op b : Int} : argB op b = true ↔ (0 ≤ op ∧ op < 8) ∧ 1 ≤ b ∧ b ≤ 5000 := by
 unfold argB
 simp only [Bool.and_eq_true, decide_eq_true_iff]
theorem refE_ok {R : List BRul} {C : List BCert} {b : Int} (h1 : C.all certB = true) (h2 : R.length + needE C ≤ 400) (h3 : 1 ≤ b ∧ b ≤ 5000) : refE R.length C b = 0 := by
 unfold refE
 rw [if_pos h1, if_neg (by omega), if_neg (by omega)]
/-! what fits -/
theorem fitGo_one {R : List BRul} {b : Int} {c : List ByteArray} : ∀ {l : List ByteArray} {a : Int}, fitGo R b c a l = 1 → a = 1 ∧ ∀ x ∈ l, rowErr R x b = 0 ∧ metB R b c x = true
 | [], a, h => ⟨h, fun x hx => by cases hx⟩
 | x :: l, a, h => by
  unfold fitGo at h
  by_cases h1 : rowErr R x b = 0
  · rw [if_neg (by simpa using h1)] at h
    obtain ⟨h2, h3⟩ := fitGo_one h
    by_cases h4 : metB R b c x = true
    · rw [if_pos h4] at h2
      refine ⟨h2, fun y hy => ?_⟩
      rcases List.mem_cons.1 hy with rfl | hy
      · exact ⟨h1, h4⟩
      · exact h3 y hy
    · rw [if_neg h4] at h2; cases h2
  · rw [if_pos h1] at h; cases h
theorem askGo_grant {R : List BRul} {b : Int} {c : List ByteArray} {op : Int} : ∀ {L : List BEnt} {k : Nat} {a : Int}, a ≠ 1 → (askGo R b c op k a L).1 = 1 → ∃ (i : Nat) (x : BEnt), L[i]? = some x ∧ (askGo R b c op k a L).2 = ((k + i : Nat) : Int) ∧ x.1 = op ∧ fitV R b c x.2 = 1 ∧ ∀ j, j < i → ∀ y, L[j]? = some y → ¬ (y.1 = op ∧ fitV R b c y.2 = 1)
 | [], k, a, ha, h => absurd h ha
 | x :: L, k, a, ha, h => by
  unfold askGo at h ⊢
  by_cases h1 : x.1 = op
  · rw [if_pos h1] at h ⊢
    by_cases h2 : fitV R b c x.2 = 1
    · rw [if_pos h2]
      exact ⟨0, x, rfl, rfl, h1, h2, fun j hj => by omega⟩
    · rw [if_neg h2] at h ⊢
      have ha2 : (if fitV R b c x.2 = 2 then (2 : Int) else a) ≠ 1 := by
       split
       · decide
       · exact ha
      obtain ⟨i, y, q1, q2, q3, q4, q5⟩ := askGo_grant ha2 h
      refine ⟨i + 1, y, by simpa using q1, by rw [q2]; congr 1; omega, q3, q4, fun j hj z hz => ?_⟩
      cases j with
      | zero => simp at hz; subst hz; exact fun e => h2 e.2
      | succ j => exact q5 j (by omega) z (by simpa using hz)
  · rw [if_neg h1] at h ⊢
    obtain ⟨i, y, q1, q2, q3, q4, q5⟩ := askGo_grant ha h
    refine ⟨i + 1, y, by simpa using q1, by rw [q2]; congr 1; omega, q3, q4, fun j hj z hz => ?_⟩
    cases j with
    | zero => simp at hz; subst hz; exact fun e => h1 e.1
    | succ j => exact q5 j (by omega) z (by simpa using hz)
/-- What a grant says. -/
structure Granted (R : List BRul) (C : List BCert) (L : List BEnt) (op : Int) (c : List ByteArray) (b : Int) (d : DDec) (i : Nat) (x : BEnt) : Prop where
 at_ : L[i]? = some x
 entry : d.entry = i
 op_ : x.1 = op
 way : (d.short = true ∧ x.2.all (hasB c) = true) ∨ (d.short = false ∧ ∃ s, acceptE R C b = .ok s ∧ d.rules = s.rules ∧ fitV s.rules b c x.2 = 1)
theorem dec_grant {R : List BRul} {C : List BCert} {L : List BEnt} {op : Int} {c : List ByteArray} {b : Int} (h : (decE R C L op c b).1 = 0) (h1 : (decE R C L op c b).2.ans = 1) : ∃ i x, Granted R C L op c b (decE R C L op c b).2 i x := by
 obtain ⟨_, _, _, e⟩ := decE_good h
 generalize (decE R C L op c b).2 = d at h1 e ⊢
 by_cases hs : shortI op c L < L.length
 · rw [if_pos hs] at e
   have := List.findIdx_getElem (xs := L) (p := shortP op c) (w := hs)
   unfold shortP at this
   rw [Bool.and_eq_true, decide_eq_true_iff] at this
   refine ⟨shortI op c L, _, List.getElem?_eq_getElem hs, by rw [e], this.1, .inl ⟨by rw [e], this.2⟩⟩
 · rw [if_neg hs] at e
   unfold runD at e
   split at e
   · rename_i s hacc
     rw [e] at h1
     obtain ⟨i, x, q1, q2, q3, q4, _⟩ := askGo_grant (by decide) h1
     refine ⟨i, x, q1, by rw [e]; simpa using q2, q3, .inr ⟨by rw [e], s, hacc, by rw [e], q4⟩⟩
   · rw [e] at h1; cases h1
theorem tellL_mem {R : List BRul} {b : Int} {x v : ByteArray} (h : rowErr R x b = 0) : v ∈ tellL R x b ↔ tellB R x v b = true := by
 have := (row12_tell h).tell (t := v)
 rw [← this, decide_eq_true_iff]
/-- Each word of what is granted leads to a word of who asks. -/
theorem granted_to {R : List BRul} {C : List BCert} {L : List BEnt} {op : Int} {c : List ByteArray} {b : Int} {d : DDec} {i : Nat} {x : BEnt} (h : Granted R C L op c b d i x) {w : ByteArray} (hw : w ∈ x.2) : toW d b c w < c.length ∧ (d.short = false → rowErr d.rules w b = 0) ∧ ∀ v, c[toW d b c w]? = some v → v ∈ leadL d b w := by
 have key : ∀ v ∈ c, v ∈ leadL d b w → toW d b c w < c.length ∧ ∀ v, c[toW d b c w]? = some v → v ∈ leadL d b w := by
  intro v hv hl
  have hlt : toW d b c w < c.length := List.findIdx_lt_length_of_exists ⟨v, hv, decide_eq_true hl⟩
  refine ⟨hlt, fun u hu => ?_⟩
  have := List.findIdx_getElem (xs := c) (p := fun v => decide (v ∈ leadL d b w)) (w := hlt)
  rw [decide_eq_true_iff] at this
  have e : c[toW d b c w] = u := (List.getElem?_eq_some_iff.1 hu).2
  rwa [← e]
 rcases h.way with ⟨h1, h2⟩ | ⟨h1, s, h2, h3, h4⟩
 · have := List.all_eq_true.1 h2 w hw
   unfold hasB at this
   rw [decide_eq_true_iff] at this
   obtain ⟨k1, k2⟩ := key w this (by unfold leadL; rw [if_pos h1]; simp)
   exact ⟨k1, (fun e => by rw [h1] at e; cases e), k2⟩
 · obtain ⟨_, h5⟩ := fitGo_one h4
   obtain ⟨h6, h7⟩ := h5 w hw
   unfold metB anyB at h7
   obtain ⟨v, hv, hc⟩ := List.any_eq_true.1 h7
   unfold hasB at hc
   rw [decide_eq_true_iff] at hc
   obtain ⟨k1, k2⟩ := key v hc (by unfold leadL; rw [h1, h3]; exact hv)
   exact ⟨k1, fun _ => by rw [h3]; exact h6, k2⟩
end Go.Proofs.YthdfplafihmejaaGreat
