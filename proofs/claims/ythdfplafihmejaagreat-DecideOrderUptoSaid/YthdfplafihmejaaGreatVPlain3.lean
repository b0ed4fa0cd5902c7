/-
  Decide, in plain Lean: the answer is the truth; in whatever order certificates stand.
-/
import Derived.Test.YthdfplafihmejaaGreatVPlain2
namespace Go.Proofs.YthdfplafihmejaaGreat
open Go.RowKit Go.Maps

section
variable {R : List BRul} {C : List BCert} {L : List BEnt} {op : Int} {c : List ByteArray} {b : Int}
def opOver (R : List BRul) (L : List BEnt) (op b : Int) : Bool := L.any fun x => decide (x.1 = op) && overB R b x.2
def truthB (R : List BRul) (L : List BEnt) (op : Int) (c : List ByteArray) (b : Int) : Bool := L.any fun x => decide (x.1 = op) && x.2.all (metB R b c)
theorem dec_ways (h : (decE R C L op c b).1 = 0) : (∃ e, acceptE R C b = .error e ∧ e = 12 ∧ (decE R C L op c b).2.ans ≠ 0) ∨ ∃ s, acceptE R C b = .ok s ∧ (opOver s.rules L op b = true → (decE R C L op c b).2.ans ≠ 0) ∧
  (opOver s.rules L op b = false → (truthB s.rules L op c b = true → (decE R C L op c b).2.ans = 1) ∧ (truthB s.rules L op c b = false → (decE R C L op c b).2.ans = 0)) := by
 obtain ⟨g1, g2, g3, e⟩ := decE_good h
 obtain ⟨l1, l2, l3⟩ := listB_iff.1 g1
 have hr := refE_ok l3 g3 (argB_iff.1 g2).2
 rw [e]
 unfold runD
 cases hacc : acceptE R C b with
 | error k =>
  refine .inl ⟨k, rfl, accept_err12 hacc hr, ?_⟩
  split
  · show (1 : Int) ≠ 0; decide
  · show (2 : Int) ≠ 0; decide
 | ok s =>
  refine .inr ⟨s, rfl, ?_⟩
  by_cases hs : shortI op c L < L.length
  · rw [if_pos hs]
    refine ⟨fun _ => by show (1 : Int) ≠ 0; decide, fun ho => ⟨fun _ => rfl, fun ht => ?_⟩⟩
    exfalso
    have hg := List.findIdx_getElem (xs := L) (p := shortP op c) (w := hs)
    have hm : L[shortI op c L] ∈ L := List.getElem_mem hs
    generalize hx : L[shortI op c L] = x at hm
    have hg : shortP op c x = true := by rw [← hx]; exact hg
    unfold shortP at hg
    rw [Bool.and_eq_true, decide_eq_true_iff] at hg
    have o1 := List.any_eq_false.1 ho x hm
    rw [decide_eq_true hg.1, Bool.true_and, Bool.not_eq_true] at o1
    have t1 := List.any_eq_false.1 ht x hm
    rw [decide_eq_true hg.1, Bool.true_and] at t1
    refine t1 (List.all_eq_true.2 fun w hw => ?_)
    have hrw : rowErr s.rules w b = 0 := by have := List.any_eq_false.1 o1 w hw; simpa using this
    unfold metB anyB
    have hc := List.all_eq_true.1 hg.2 w hw
    exact List.any_eq_true.2 ⟨w, (tellL_mem hrw).2 ((tellB_iff hrw).2 .refl), hc⟩
  · rw [if_neg hs]
    show (_ → (askGo s.rules b c op 0 0 L).1 ≠ 0) ∧ (_ → (_ → (askGo s.rules b c op 0 0 L).1 = 1) ∧ (_ → (askGo s.rules b c op 0 0 L).1 = 0))
    rw [askGo_val]
    refine ⟨fun ho => ?_, fun ho => ⟨fun ht => ?_, fun ht => ?_⟩⟩
    · obtain ⟨x, hx, q⟩ := List.any_eq_true.1 ho
      rw [Bool.and_eq_true, decide_eq_true_iff] at q
      split
      · decide
      · rw [if_pos (List.any_eq_true.2 ⟨x, hx, by unfold fitsB; rw [decide_eq_true q.1, fitV_val, if_pos q.2]; rfl⟩)]; decide
    · obtain ⟨x, hx, q⟩ := List.any_eq_true.1 ht
      rw [Bool.and_eq_true, decide_eq_true_iff] at q
      have o1 := List.any_eq_false.1 ho x hx
      rw [decide_eq_true q.1, Bool.true_and] at o1
      rw [if_pos (List.any_eq_true.2 ⟨x, hx, by unfold fitsB; rw [decide_eq_true q.1, fitV_val, if_neg o1, if_pos q.2]; rfl⟩)]
    · have key : ∀ x ∈ L, fitsB s.rules b c op 1 x = false ∧ fitsB s.rules b c op 2 x = false := by
       intro x hx
       have o1 := List.any_eq_false.1 ho x hx
       have t1 := List.any_eq_false.1 ht x hx
       unfold fitsB
       by_cases hop : x.1 = op
       · rw [decide_eq_true hop, Bool.true_and] at o1 t1
         rw [fitV_val, if_neg o1, if_neg t1]
         simp
       · rw [decide_eq_false hop]; simp
      rw [if_neg (by rw [Bool.not_eq_true]; exact List.any_eq_false.2 fun x hx => by rw [(key x hx).1]; decide), if_neg (by rw [Bool.not_eq_true]; exact List.any_eq_false.2 fun x hx => by rw [(key x hx).2]; decide)]
/-! a turn -/
def twiceC (C : List BCert) (t : Nat) : List BCert := turned C t ++ [C.getD (t % C.length) noC]
theorem twiceC_to {t i : Nat} {k : BCert} (h : C[i]? = some k) : (twiceC C t)[turnN C.length t i]? = some k := by
 have hi := (List.getElem?_eq_some_iff.1 h).1
 unfold twiceC
 rw [List.getElem?_append_left (by rw [turned_length]; exact turn_lt (by omega))]
 exact turned_get h
def backN (n t j : Nat) : Nat := if j < n then turnN n t j else t % n
theorem twiceC_of {t j : Nat} {k : BCert} (h0 : 0 < C.length) (h : (twiceC C t)[j]? = some k) : C[backN C.length t j]? = some k := by
 unfold twiceC at h
 unfold backN
 by_cases hj : j < C.length
 · rw [if_pos hj]
   rw [List.getElem?_append_left (by rw [turned_length]; exact hj)] at h
   exact turned_back h
 · rw [if_neg hj]
   rw [List.getElem?_append_right (by rw [turned_length]; omega), turned_length] at h
   have h1 := (List.getElem?_eq_some_iff.1 h).1
   have h2 : j - C.length = 0 := by simp at h1; omega
   rw [h2] at h
   simp at h
   rw [← h]
   have := Nat.mod_lt t h0
   rw [List.getElem?_eq_getElem this]; rfl
theorem fin_rules {R R' : List BRul} {C C' : List BCert} {s s' : ASt} (h : AFin R C b s) (h' : AFin R' C' b s') (hR : ∀ r ∈ R, r ∈ R') (φ : Nat → Nat) (hφ : ∀ i k, C[i]? = some k → C'[φ i]? = some k) : ∀ r ∈ s.rules, r ∈ s'.rules := by
 intro r hr
 rw [h.inv.rules] at hr
 rw [h'.inv.rules]
 rcases List.mem_append.1 hr with q | q
 · exact List.mem_append_left _ (hR r q)
 · refine List.mem_append_right _ ?_
   unfold rulesOf at q ⊢
   obtain ⟨j, hj, hq⟩ := List.mem_flatMap.1 q
   obtain ⟨k, hk⟩ : ∃ k, C[j]? = some k := ⟨_, List.getElem?_eq_getElem (h.inv.lt j hj)⟩
   rw [hk] at hq
   exact List.mem_flatMap.2 ⟨φ j, fin_more h h' hR φ hφ j hj, by rw [hφ j k hk]; exact hq⟩
theorem met_more {R R' : List BRul} {x : ByteArray} (hs : ∀ r ∈ R, r ∈ R') (h : rowErr R x b = 0) (h' : rowErr R' x b = 0) (hm : metB R b c x = true) : metB R' b c x = true := by
 unfold metB anyB at *
 obtain ⟨v, hv, hc⟩ := List.any_eq_true.1 hm
 refine List.any_eq_true.2 ⟨v, (tellL_mem h').2 ((tellB_iff h').2 ?_), hc⟩
 refine ((tellB_iff h).1 ((tellL_mem h).1 hv)).mono (fun r hr => ?_)
 obtain ⟨q, hq, rfl⟩ := List.mem_map.1 hr
 exact List.mem_map_of_mem (hs q hq)
/-- What is granted of one is granted of another one with as many rules, if nothing is over. -/
theorem dec_more {R' : List BRul} {C' : List BCert} (h : (decE R C L op c b).1 = 0) (h' : (decE R' C' L op c b).1 = 0) (hR : ∀ r ∈ R, r ∈ R') (φ : Nat → Nat) (hφ : ∀ i k, C[i]? = some k → C'[φ i]? = some k)
  (h1 : (decE R C L op c b).2.ans = 1) (h2 : (decE R' C' L op c b).2.ans ≠ 2) : (decE R' C' L op c b).2.ans = 1 := by
 obtain ⟨_, _, _, e⟩ := decE_good h
 obtain ⟨_, _, _, e'⟩ := decE_good h'
 rw [e] at h1
 rw [e'] at h2 ⊢
 by_cases hs : shortI op c L < L.length
 · rw [if_pos hs]
 rw [if_neg hs] at h1 h2 ⊢
 unfold runD at h1 h2 ⊢
 cases ha : acceptE R C b with
 | error k => rw [ha] at h1; cases h1
 | ok s =>
 cases ha' : acceptE R' C' b with
 | error k => rw [ha'] at h2; exact absurd rfl h2
 | ok s' =>
 rw [ha] at h1
 rw [ha'] at h2
 replace h1 : (askGo s.rules b c op 0 0 L).1 = 1 := h1
 replace h2 : (askGo s'.rules b c op 0 0 L).1 ≠ 2 := h2
 show (askGo s'.rules b c op 0 0 L).1 = 1
 have hsub := fin_rules (accept_fin ha).1 (accept_fin ha').1 hR φ hφ
 obtain ⟨i, x, q1, _, q3, q4, _⟩ := askGo_grant (by decide) h1
 have hx := List.mem_of_getElem? q1
 obtain ⟨_, q5⟩ := fitGo_one q4
 rw [askGo_val] at h2 ⊢
 by_cases g : L.any (fitsB s'.rules b c op 1) = true
 · rw [if_pos g]
 rw [if_neg g] at h2
 have g2 : L.any (fitsB s'.rules b c op 2) = false := by
  rw [Bool.eq_false_iff]; intro q; rw [if_pos q] at h2; exact h2 rfl
 have f2 : fitV s'.rules b c x.2 ≠ 2 := fun q => List.any_eq_false.1 g2 x hx (by unfold fitsB; rw [decide_eq_true q3, decide_eq_true q]; rfl)
 rw [fitV_val] at f2
 have o : ¬ overB s'.rules b x.2 = true := fun q => f2 (if_pos q)
 exfalso
 refine g (List.any_eq_true.2 ⟨x, hx, ?_⟩)
 unfold fitsB
 rw [decide_eq_true q3, fitV_val, if_neg o, if_pos (List.all_eq_true.2 fun w hw => ?_)]
 · rfl
 · rw [Bool.not_eq_true] at o
   have hr : rowErr s'.rules w b = 0 := by have := List.any_eq_false.1 o w hw; simpa using this
   exact met_more hsub (q5 w hw).1 hr (q5 w hw).2
theorem ans_cases (h : (decE R C L op c b).1 = 0) : (decE R C L op c b).2.ans = 0 ∨ (decE R C L op c b).2.ans = 1 ∨ (decE R C L op c b).2.ans = 2 := by
 obtain ⟨_, _, _, e⟩ := decE_good h
 rw [e]
 split
 · exact .inr (.inl rfl)
 · unfold runD
   split
   · show (askGo _ b c op 0 0 L).1 = 0 ∨ (askGo _ b c op 0 0 L).1 = 1 ∨ (askGo _ b c op 0 0 L).1 = 2
     rw [askGo_val]
     split
     · exact .inr (.inl rfl)
     · split
       · exact .inr (.inr rfl)
       · exact .inl rfl
   · exact .inr (.inr rfl)
theorem dec_order {t : Nat} (h0 : 0 < C.length) (h : (decE R C L op c b).1 = 0) (h' : (decE R.reverse (twiceC C t) L op c b).1 = 0) (h1 : (decE R C L op c b).2.ans ≠ 2) (h2 : (decE R.reverse (twiceC C t) L op c b).2.ans ≠ 2) : (decE R C L op c b).2.ans = (decE R.reverse (twiceC C t) L op c b).2.ans := by
 have m1 := dec_more h h' (fun r hr => List.mem_reverse.2 hr) (turnN C.length t) (fun i k hk => twiceC_to hk)
 have m2 := dec_more h' h (fun r hr => List.mem_reverse.1 hr) (backN C.length t) (fun i k hk => twiceC_of h0 hk)
 rcases ans_cases h with a | a | a
 · rcases ans_cases h' with a' | a' | a'
   · rw [a, a']
   · have := m2 a' h1; rw [a] at this; cases this
   · exact absurd a' h2
 · rw [a, m1 a h2]
 · exact absurd a h1
end
end Go.Proofs.YthdfplafihmejaaGreat
