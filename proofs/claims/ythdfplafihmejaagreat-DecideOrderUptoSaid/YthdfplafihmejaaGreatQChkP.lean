/-
  QCutP: what else.
-/
import Derived.Test.YthdfplafihmejaaGreatQCutP
namespace Go.Proofs.YthdfplafihmejaaGreat
open Go.RowKit Go.Maps

section
variable {roots : Int} {C : List BCert} {p : BProof}
end
section
variable (roots : Int) (C : List BCert) (B : List Nat) (gone : Nat → Nat) (need : List Bool) (I : List BItem)
theorem keepI_some {i : Nat} {x : BItem} (hx : I[i]? = some x) (h : need.getD i false = true) : keepI roots B gone need I i = some (newI roots B gone x) := by
 unfold keepI
 rw [hx]
 simp only
 rw [if_pos h]
 rfl
theorem keepI_none {i : Nat} (h : need.getD i false = false) : keepI roots B gone need I i = none := by
 unfold keepI
 cases I[i]? with
 | none => rfl
 | some x => simp only; rw [if_neg (by rw [h]; decide)]
theorem keepTo_pre {i k : Nat} (h : i ≤ k) : keepTo roots B gone need I i <+: keepTo roots B gone need I k := by
 induction h with
 | refl => exact List.prefix_refl _
 | step _ ih => rw [keepTo_succ]; exact ih.trans (List.prefix_append _ _)
theorem keepTo_get {y : BItem} {k' : Nat} : ∀ {n : Nat}, (keepTo roots B gone need I n)[k']? = some y → ∃ k x, k < n ∧ I[k]? = some x ∧ need.getD k false = true ∧ y = newI roots B gone x ∧ k' = (keepTo roots B gone need I k).length
 | 0, h => by unfold keepTo at h; simp at h
 | n + 1, h => by
  rw [keepTo_succ] at h
  by_cases hk : k' < (keepTo roots B gone need I n).length
  ·rw [List.getElem?_append_left hk] at h
   obtain ⟨k, x, h1, h2⟩ := keepTo_get h
   exact ⟨k, x, by omega, h2⟩
  ·rw [List.getElem?_append_right (by omega)] at h
   cases hx : I[n]? with
   | none =>
    have : keepI roots B gone need I n = none := by unfold keepI; rw [hx]
    rw [this] at h
    simp at h
   | some x =>
    cases hn : need.getD n false with
    | false =>
     rw [keepI_none _ _ _ _ _ hn] at h
     simp at h
    | true =>
     rw [keepI_some _ _ _ _ _ hx hn] at h
     rw [Option.toList_some] at h
     obtain ⟨h1, h2⟩ := List.getElem?_eq_some_iff.1 h
     simp only [List.length_singleton] at h1
     have e : k' - (keepTo roots B gone need I n).length = 0 := by omega
     simp only [e, List.getElem_cons_zero] at h2
     exact ⟨n, x, by omega, hx, hn, h2.symm, by omega⟩
theorem keepTo_at {k n : Nat} {x : BItem} (hk : k < n) (hx : I[k]? = some x) (hn : need.getD k false = true) : (keepTo roots B gone need I n)[(keepTo roots B gone need I k).length]? = some (newI roots B gone x) := by
 have h1 : keepTo roots B gone need I (k + 1) = keepTo roots B gone need I k ++ [newI roots B gone x] := by rw [keepTo_succ, keepI_some _ _ _ _ _ hx hn]; rfl
 obtain ⟨t, ht⟩ := keepTo_pre roots B gone need I (show k + 1 ≤ n by omega)
 rw [← ht, h1, List.append_assoc, List.getElem?_append_right (Nat.le_refl _), Nat.sub_self]
 rfl
theorem keepTo_take {k n : Nat} (hk : k ≤ n) : (keepTo roots B gone need I n).take (keepTo roots B gone need I k).length = keepTo roots B gone need I k := by
 obtain ⟨t, ht⟩ := keepTo_pre roots B gone need I hk
 rw [← ht, List.take_append_of_le_length (Nat.le_refl _), List.take_length]
end
theorem kept_tot (roots : Int) (C : List BCert) (B : List Nat) (gone : Nat → Nat) (need : List Bool) (I : List BItem) : ∀ {k : Nat}, k ≤ I.length → ((keepTo roots B gone need I k).map fun x => frLen C x.cert).sum + goneTo C I need k = tot C I k
 | 0, _ => by rw [tot_zero]; simp [keepTo, goneTo]
 | k + 1, hk => by
  have ih := kept_tot roots C B gone need I (k := k) (by omega)
  obtain ⟨x, hx⟩ : ∃ x, I[k]? = some x := ⟨_, List.getElem?_eq_getElem (by omega)⟩
  have ht := tot_succ (C := C) hx
  rw [keepTo_succ]
  unfold goneTo
  cases hn : need.getD k false with
  | true =>
   rw [keepI_some _ _ _ _ _ hx hn]
   simp only [Option.toList_some, List.map_append, List.sum_append, List.map_cons, List.map_nil, List.sum_cons, List.sum_nil, newI, if_true]
   omega
  | false =>
   rw [keepI_none _ _ _ _ _ hn]
   simp only [Option.toList_none, List.append_nil]
   rw [if_neg (by decide)]
   omega
section
variable {roots : Int} {C : List BCert} {p : BProof}
theorem cut_items (roots : Int) (C : List BCert) (p : BProof) : (cutE roots C p).items = keepTo roots (begins C p.items) (goneTo C p.items (needB roots (begins C p.items) p)) (needB roots (begins C p.items) p) p.items p.items.length := rfl
theorem cut_steps (roots : Int) (C : List BCert) (p : BProof) : (cutE roots C p).steps = anewL roots (begins C p.items) (goneTo C p.items (needB roots (begins C p.items) p)) p.steps := rfl
theorem cut_get {k' : Nat} {y : BItem} (h : (cutE roots C p).items[k']? = some y) : ∃ k x, p.items[k]? = some x ∧ isN roots C p k ∧ y = newX roots C p x ∧ k' = toI roots C p k := by
 rw [cut_items] at h
 obtain ⟨k, x, _, h2, h3, h4, h5⟩ := keepTo_get _ _ _ _ _ h
 exact ⟨k, x, h2, h3, h4, h5⟩
theorem cut_at {k : Nat} {x : BItem} (hx : p.items[k]? = some x) (h : isN roots C p k) : (cutE roots C p).items[toI roots C p k]? = some (newX roots C p x) := by
 rw [cut_items]
 exact keepTo_at _ _ _ _ _ (List.getElem?_eq_some_iff.1 hx).1 hx h
theorem cut_tot {k : Nat} (hk : k ≤ p.items.length) : tot C (cutE roots C p).items (toI roots C p k) + goneTo C p.items (needB roots (begins C p.items) p) k = tot C p.items k := by
 unfold tot toI
 rw [cut_items, keepTo_take _ _ _ _ _ hk]
 exact kept_tot _ _ _ _ _ _ hk
/-- A needed rule's new number. -/
theorem newS_some {s : Int × Int} {i k : Nat} {x : BItem} (hk : k ≤ p.items.length) (hr : s.2 < roots + tot C p.items k) (ho : own13 roots (begins C p.items) s.2 = some i) (hx : p.items[i]? = some x) (hn : isN roots C p i) :
  (newS roots C p s).1 = s.1 ∧ (newS roots C p s).2 = s.2 - goneTo C p.items (needB roots (begins C p.items) p) i ∧ roots + tot C (cutE roots C p).items (toI roots C p i) ≤ (newS roots C p s).2 ∧ (newS roots C p s).2 < roots + tot C (cutE roots C p).items (toI roots C p i + 1) ∧ own13 roots (begins C (cutE roots C p).items) (newS roots C p s).2 = some (toI roots C p i) := by
 obtain ⟨h1, h2, h3⟩ := own_inv hk hr ho
 have e : newS roots C p s = (s.1, s.2 - goneTo C p.items (needB roots (begins C p.items) p) i) := by unfold newS anewS; rw [ho]
 have ha := cut_at hx hn
 have t1 := cut_tot (roots := roots) (C := C) (p := p) (k := i) (by omega)
 have t2 := tot_succ (C := C) ha
 have t3 := tot_succ (C := C) hx
 have t4 : frLen C (newX roots C p x).cert = frLen C x.cert := rfl
 rw [e]
 have q1 : roots + tot C (cutE roots C p).items (toI roots C p i) ≤ s.2 - goneTo C p.items (needB roots (begins C p.items) p) i := by omega
 have q2 : s.2 - goneTo C p.items (needB roots (begins C p.items) p) i < roots + tot C (cutE roots C p).items (toI roots C p i + 1) := by omega
 exact ⟨rfl, rfl, q1, q2, own_at (List.getElem?_eq_some_iff.1 ha).1 q1 q2⟩
theorem newS_none {s : Int × Int} (ho : own13 roots (begins C p.items) s.2 = none) : newS roots C p s = s := by
 unfold newS anewS; rw [ho]
theorem toI_mono {i k : Nat} (h : i ≤ k) : toI roots C p i ≤ toI roots C p k := (keepTo_pre _ _ _ _ _ h).length_le
theorem toI_lt {i k : Nat} {x : BItem} (h : i < k) (hx : p.items[i]? = some x) (hn : isN roots C p i) : toI roots C p i < toI roots C p k := by
 have h1 : toI roots C p (i + 1) = toI roots C p i + 1 := by
  unfold toI
  rw [keepTo_succ, keepI_some _ _ _ _ _ hx hn, List.length_append]
  rfl
 have := toI_mono (roots := roots) (C := C) (p := p) (show i + 1 ≤ k by omega)
 omega
/-- What the steps of the proof and of the items that stay lean on stays. -/
theorem need_steps (h : CutOk roots C p) {s : Int × Int} (hs : s ∈ p.steps) {i : Nat} (ho : own13 roots (begins C p.items) s.2 = some i) : isN roots C p i := (need_iff h i).2 (.inl ⟨s, hs, ho⟩)
theorem need_item (h : CutOk roots C p) {k : Nat} {x : BItem} (hx : p.items[k]? = some x) (hn : isN roots C p k) {l : BSteps} (hl : l ∈ x.paths) {s : Int × Int} (hs : s ∈ l) {i : Nat} (ho : own13 roots (begins C p.items) s.2 = some i) : isN roots C p i := (need_iff h i).2 (.inr ⟨k, x, hx, hn, l, hl, s, hs, ho⟩)
/-- A step that stays: its rule's number, below what stands ahead. -/
theorem new_stands (h : CutOk roots C p) {k : Nat} (hk : k ≤ p.items.length) {s : Int × Int} (h0 : 0 ≤ s.2) (h1 : s.2 < roots + tot C p.items k) (hn : ∀ i, own13 roots (begins C p.items) s.2 = some i → isN roots C p i) : 0 ≤ (newS roots C p s).2 ∧ (newS roots C p s).2 < roots + tot C (cutE roots C p).items (toI roots C p k) := by
 cases ho : own13 roots (begins C p.items) s.2 with
 | none =>
  rw [newS_none ho]
  have := own_none13.1 ho
  omega
 | some i =>
  obtain ⟨a1, a2, a3⟩ := own_inv hk h1 ho
  obtain ⟨x, hx⟩ : ∃ x, p.items[i]? = some x := ⟨_, List.getElem?_eq_getElem (by omega)⟩
  obtain ⟨_, _, b1, b2, _⟩ := newS_some hk h1 ho hx (hn i ho)
  have hr := h.root
  have := toI_lt (roots := roots) (C := C) (p := p) a1 hx (hn i ho)
  have := tot_mono C (cutE roots C p).items (show toI roots C p i + 1 ≤ toI roots C p k by omega)
  omega
end
end Go.Proofs.YthdfplafihmejaaGreat

namespace Go.Proofs.YthdfplafihmejaaGreat
open Go.RowKit Go.Maps

theorem rulesI_length (C : List BCert) (x : BItem) : (rulesI C x).length = frLen C x.cert := by
 unfold rulesI frLen
 cases C[x.cert.toNat]? with
 | none => rfl
 | some c => simp only; unfold crules; rw [List.length_map]
theorem rulesTo_succ {C : List BCert} {I : List BItem} {k : Nat} {x : BItem} (h : I[k]? = some x) : rulesTo C I (k + 1) = rulesTo C I k ++ rulesI C x := by
 unfold rulesTo
 rw [List.take_add_one, h, List.flatMap_append]
 simp
theorem rulesTo_length (C : List BCert) (I : List BItem) (k : Nat) : (rulesTo C I k).length = tot C I k := by
 unfold rulesTo tot
 rw [List.length_flatMap]
 congr 1
 exact List.map_congr_left fun x _ => rulesI_length C x
theorem rulesTo_pre (C : List BCert) (I : List BItem) {i k : Nat} (h : i ≤ k) : rulesTo C I i <+: rulesTo C I k := by
 obtain ⟨t, ht⟩ := List.take_prefix_take_left (l := I) h
 unfold rulesTo
 rw [← ht, List.flatMap_append]
 exact List.prefix_append _ _
/-- A rule of item i, seen from behind it. -/
theorem rules_at {C : List BCert} {I : List BItem} {i k m : Nat} {x : BItem} (R : List BRul) (hik : i < k) (hx : I[i]? = some x) (hm : m < frLen C x.cert) : (R ++ rulesTo C I k)[R.length + tot C I i + m]? = (rulesI C x)[m]? := by
 obtain ⟨t, ht⟩ := rulesTo_pre C I (show i + 1 ≤ k by omega)
 rw [← ht, rulesTo_succ hx, List.getElem?_append_right (by omega)]
 have e : R.length + tot C I i + m - R.length = (rulesTo C I i).length + m := by rw [rulesTo_length]; omega
 rw [e, List.append_assoc, List.getElem?_append_right (by omega)]
 have e2 : (rulesTo C I i).length + m - (rulesTo C I i).length = m := by omega
 rw [e2, List.getElem?_append_left (by rw [rulesI_length]; exact hm)]
theorem itemE_zero {R : List BRul} {C : List BCert} {seen : List Nat} {x : BItem} : itemE R C seen x = 0 ↔ 0 ≤ x.cert ∧ x.cert < C.length ∧ x.cert.toNat ∉ seen ∧ ∃ c, C[x.cert.toNat]? = some c ∧ certB c = true ∧ x.paths.length = c.fr.length ∧ pathsB R c x.paths = true := by
 unfold itemE
 by_cases h1 : x.cert < 0 ∨ (C.length : Int) ≤ x.cert
 ·rw [if_pos h1]
  exact ⟨fun e => (by cases e), fun ⟨a, b, _⟩ => by omega⟩
 rw [if_neg h1]
 by_cases h2 : x.cert.toNat ∈ seen
 ·rw [if_pos h2]
  exact ⟨fun e => (by cases e), fun ⟨_, _, c, _⟩ => absurd h2 c⟩
 rw [if_neg h2]
 obtain ⟨c, hc⟩ : ∃ c, C[x.cert.toNat]? = some c := ⟨_, List.getElem?_eq_getElem (by omega)⟩
 rw [hc]
 simp only
 by_cases h3 : certB c = true ∧ x.paths.length = c.fr.length
 ·rw [if_pos h3]
  by_cases h4 : pathsB R c x.paths = true
  ·rw [if_pos h4]
   exact ⟨fun _ => ⟨by omega, by omega, h2, c, rfl, h3.1, h3.2, h4⟩, fun _ => rfl⟩
  ·rw [if_neg h4]
   exact ⟨fun e => (by cases e), fun ⟨_, _, _, d, hd, _, _, q⟩ => by cases hd; exact absurd q h4⟩
 ·rw [if_neg h3]
  exact ⟨fun e => (by cases e), fun ⟨_, _, _, d, hd, q1, q2, _⟩ => by cases hd; exact absurd ⟨q1, q2⟩ h3⟩
theorem checkI_zero {C : List BCert} : ∀ {I : List BItem} {R : List BRul} {seen : List Nat}, (checkI C R seen I).1 = 0 ↔ ∀ (k : Nat) x, I[k]? = some x → itemE (R ++ rulesTo C I k) C (seen ++ certsTo I k) x = 0
 | [], R, seen => ⟨fun _ k x h => by simp at h, fun _ => rfl⟩
 | y :: I, R, seen => by
  unfold checkI
  have e1 : ∀ k, rulesTo C (y :: I) (k + 1) = rulesI C y ++ rulesTo C I k := fun k => by unfold rulesTo; rw [List.take_succ_cons, List.flatMap_cons]
  have e2 : ∀ k, certsTo (y :: I) (k + 1) = y.cert.toNat :: certsTo I k := fun k => by unfold certsTo; rw [List.take_succ_cons, List.map_cons]
  by_cases h : itemE R C seen y = 0
  ·rw [if_pos h, checkI_zero]
   constructor
   ·intro q k x hx
    cases k with
    | zero =>
     rw [List.getElem?_cons_zero] at hx
     cases hx
     simpa [rulesTo, certsTo] using h
    | succ k =>
     rw [List.getElem?_cons_succ] at hx
     have := q k x hx
     rw [e1, e2]
     rwa [List.append_assoc, List.append_assoc] at this
   ·intro q k x hx
    have := q (k + 1) x (by rw [List.getElem?_cons_succ]; exact hx)
    rw [e1, e2] at this
    rw [List.append_assoc, List.append_assoc]
    exact this
  ·rw [if_neg h]
   exact ⟨fun e => absurd e h, fun q => absurd (by simpa [rulesTo, certsTo] using q 0 y rfl) h⟩
theorem checkI_rules {C : List BCert} : ∀ {I : List BItem} {R : List BRul} {seen : List Nat}, (checkI C R seen I).1 = 0 → (checkI C R seen I).2 = R ++ rulesTo C I I.length
 | [], R, seen, _ => by unfold checkI rulesTo; simp
 | y :: I, R, seen, h => by
  unfold checkI at h ⊢
  by_cases h1 : itemE R C seen y = 0
  ·rw [if_pos h1] at h ⊢
   rw [checkI_rules h]
   unfold rulesTo
   rw [List.length_cons, List.take_succ_cons, List.flatMap_cons, List.append_assoc]
  ·rw [if_neg h1] at h
   exact absurd h h1
theorem check_zero {R : List BRul} {C : List BCert} {p : BProof} {x u : ByteArray} : check13 R C p x u = 0 ↔ Right13 R C p x u := by
 unfold check13
 by_cases h : (checkI C R [] p.items).1 = 0
 ·rw [if_pos h, checkI_rules h]
  have h2 := checkI_zero.1 h
  by_cases hl : leadsB (R ++ rulesTo C p.items p.items.length) x u p.steps = true
  ·rw [if_pos hl]
   exact ⟨fun _ => ⟨fun k y hy => by simpa using h2 k y hy, hl⟩, fun _ => rfl⟩
  ·rw [if_neg hl]
   exact ⟨fun e => (by cases e), fun q => absurd q.last hl⟩
 ·rw [if_neg h]
  exact ⟨fun e => absurd e h, fun q => absurd (checkI_zero.2 fun k y hy => by simpa using q.items k y hy) h⟩
theorem pathsB_at {R : List BRul} {c : BCert} {ps : List BSteps} (h : pathsB R c ps = true) {j : Nat} {x : ByteArray} {l : BSteps} (h1 : c.fr[j]? = some x) (h2 : ps[j]? = some l) : leadsB R x (atomW c.sg) l = true := by
 unfold pathsB at h
 have := List.all_eq_true.1 h j (List.mem_range.2 (List.getElem?_eq_some_iff.1 h2).1)
 rwa [List.getD_eq_getElem?_getD, List.getD_eq_getElem?_getD, h1, h2] at this
theorem pathsB_of {R : List BRul} {c : BCert} {ps : List BSteps} (hl : ps.length = c.fr.length) (h : ∀ (j : Nat) x l, c.fr[j]? = some x → ps[j]? = some l → leadsB R x (atomW c.sg) l = true) : pathsB R c ps = true := by
 unfold pathsB
 rw [List.all_eq_true]
 intro j hj
 rw [List.mem_range] at hj
 obtain ⟨l, h2⟩ : ∃ l, ps[j]? = some l := ⟨_, List.getElem?_eq_getElem hj⟩
 obtain ⟨x, h1⟩ : ∃ x, c.fr[j]? = some x := ⟨_, List.getElem?_eq_getElem (by omega)⟩
 rw [List.getD_eq_getElem?_getD, List.getD_eq_getElem?_getD, h1, h2]
 exact h j x l h1 h2
theorem stepI_in {R : List Rul} {w u : Wd} {s : Int × Int} (h : stepI R w s = some u) : 0 ≤ s.2 ∧ s.2 < R.length := by
 unfold stepI at h
 split at h
 ·rename_i q; exact ⟨q.1, q.2.1⟩
 ·cases h
theorem walk_in {R : List Rul} : ∀ {l : BSteps} {w u : Wd}, walkI R w l = some u → ∀ s ∈ l, 0 ≤ s.2 ∧ s.2 < R.length
 | [], w, u, _, s, hs => by cases hs
 | x :: t, w, u, h, s, hs => by
  unfold walkI at h
  cases hx : stepI R w x with
  | none => rw [hx] at h; cases h
  | some v =>
   rw [hx] at h
   rcases List.mem_cons.1 hs with rfl | hs
   ·exact stepI_in hx
   ·exact walk_in h s hs
theorem step_as {R R' : List Rul} {w : Wd} {s t : Int × Int} (h1 : t.1 = s.1) (h2 : 0 ≤ t.2) (h3 : t.2 < R'.length) (h4 : R'[t.2.toNat]? = R[s.2.toNat]?) {u : Wd} (h : stepI R w s = some u) : stepI R' w t = some u := by
 have e : ruleAt R' t.2.toNat = ruleAt R s.2.toNat := by unfold ruleAt; rw [List.getD_eq_getElem?_getD, List.getD_eq_getElem?_getD, h4]
 unfold stepI at h ⊢
 split at h
 ·rename_i q
  obtain ⟨q1, q2, q3, q4, q5, q6⟩ := q
  rw [if_pos ⟨h2, h3, by rw [e]; exact q3, by rw [h1]; exact q4, by rw [h1, e]; exact q5, by rw [h1, e]; exact q6⟩]
  unfold useAt at h ⊢
  simp only at h ⊢
  rw [e, h1]
  exact h
 ·cases h
theorem walk_as {R R' : List Rul} (f : Int × Int → Int × Int) : ∀ {l : BSteps} {w u : Wd}, (∀ s ∈ l, (f s).1 = s.1 ∧ 0 ≤ (f s).2 ∧ (f s).2 < R'.length ∧ R'[(f s).2.toNat]? = R[s.2.toNat]?) → walkI R w l = some u → walkI R' w (l.map f) = some u
 | [], w, u, _, h => h
 | x :: t, w, u, hf, h => by
  unfold walkI at h
  rw [List.map_cons]
  unfold walkI
  cases hx : stepI R w x with
  | none => rw [hx] at h; cases h
  | some v =>
   rw [hx] at h
   obtain ⟨q1, q2, q3, q4⟩ := hf x List.mem_cons_self
   rw [step_as q1 q2 q3 q4 hx]
   exact walk_as f (fun s hs => hf s (List.mem_cons_of_mem _ hs)) h
theorem leads_iff {R : List BRul} {x u : ByteArray} {l : BSteps} : leadsB R x u l = true ↔ mayB x.data.toList = true ∧ ∃ y, walkI (R.map brul) x.data.toList l = some y ∧ bar y = u := by
 unfold leadsB
 rw [Bool.and_eq_true]
 cases walkI (R.map brul) x.data.toList l with
 | none => exact ⟨fun ⟨_, h⟩ => (by cases h), fun ⟨_, _, h, _⟩ => by cases h⟩
 | some y => exact ⟨fun ⟨h1, h2⟩ => ⟨h1, y, rfl, of_decide_eq_true h2⟩, fun ⟨h1, z, h2, h3⟩ => ⟨h1, by cases h2; exact decide_eq_true h3⟩⟩
theorem leads_in {R : List BRul} {x u : ByteArray} {l : BSteps} (h : leadsB R x u l = true) : ∀ s ∈ l, 0 ≤ s.2 ∧ s.2 < R.length := by
 obtain ⟨_, y, hy, _⟩ := leads_iff.1 h
 intro s hs
 have := walk_in hy s hs
 rwa [List.length_map] at this
theorem leads_as {R R' : List BRul} (f : Int × Int → Int × Int) {x u : ByteArray} {l : BSteps} (hf : ∀ s ∈ l, (f s).1 = s.1 ∧ 0 ≤ (f s).2 ∧ (f s).2 < R'.length ∧ R'[(f s).2.toNat]? = R[s.2.toNat]?) (h : leadsB R x u l = true) : leadsB R' x u (l.map f) = true := by
 obtain ⟨h1, y, hy, hu⟩ := leads_iff.1 h
 refine leads_iff.2 ⟨h1, y, walk_as f (fun s hs => ?_) hy, hu⟩
 obtain ⟨q1, q2, q3, q4⟩ := hf s hs
 exact ⟨q1, q2, by rw [List.length_map]; exact q3, by rw [List.getElem?_map, List.getElem?_map, q4]⟩
section
variable {R : List BRul} {C : List BCert} {p : BProof} {x u : ByteArray}
theorem Right13.cutOk (h : Right13 R C p x u) : CutOk R.length C p := by
 refine ⟨by omega, fun k y hy => ?_, ?_⟩
 ·obtain ⟨h1, h2, _, c, hc, _, h4, h5⟩ := itemE_zero.1 (h.items k y hy)
  unfold itemB
  simp only [Bool.and_eq_true, decide_eq_true_eq, List.all_eq_true]
  refine ⟨h1, h2, fun l hl => ?_⟩
  obtain ⟨j, hj⟩ := List.mem_iff_getElem?.1 hl
  obtain ⟨z, hz⟩ : ∃ z, c.fr[j]? = some z := ⟨_, List.getElem?_eq_getElem (by have := (List.getElem?_eq_some_iff.1 hj).1; omega)⟩
  have := leads_in (pathsB_at h5 hz hj)
  unfold standB
  rw [List.all_eq_true]
  intro s hs
  have h6 := this s hs
  rw [List.length_append, rulesTo_length] at h6
  unfold standS
  simp only [Bool.and_eq_true, decide_eq_true_eq]
  omega
 ·unfold standB
  rw [List.all_eq_true]
  intro s hs
  have h6 := leads_in h.last s hs
  rw [List.length_append, rulesTo_length] at h6
  unfold standS
  simp only [Bool.and_eq_true, decide_eq_true_eq]
  omega
theorem rule_goes (h : CutOk R.length C p) {k : Nat} (hk : k ≤ p.items.length) {s : Int × Int} (h0 : 0 ≤ s.2) (h1 : s.2 < R.length + tot C p.items k) (hn : ∀ i, own13 R.length (begins C p.items) s.2 = some i → isN R.length C p i) :
  (newS R.length C p s).1 = s.1 ∧ 0 ≤ (newS R.length C p s).2 ∧ (newS R.length C p s).2 < (R ++ rulesTo C (cutE R.length C p).items (toI R.length C p k)).length ∧ (R ++ rulesTo C (cutE R.length C p).items (toI R.length C p k))[(newS R.length C p s).2.toNat]? = (R ++ rulesTo C p.items k)[s.2.toNat]? := by
 obtain ⟨a1, a2⟩ := new_stands h hk h0 h1 hn
 cases ho : own13 R.length (begins C p.items) s.2 with
 | none =>
  rw [newS_none ho]
  have := own_none13.1 ho
  refine ⟨rfl, h0, by rw [List.length_append]; omega, ?_⟩
  rw [List.getElem?_append_left (by omega), List.getElem?_append_left (by omega)]
 | some i =>
  obtain ⟨b1, b2, b3⟩ := own_inv hk h1 ho
  obtain ⟨y, hy⟩ : ∃ y, p.items[i]? = some y := ⟨_, List.getElem?_eq_getElem (by omega)⟩
  obtain ⟨c1, c2, c3, c4, _⟩ := newS_some hk h1 ho hy (hn i ho)
  have ha := cut_at hy (hn i ho)
  have hlt := toI_lt (roots := R.length) (C := C) (p := p) b1 hy (hn i ho)
  have t1 := tot_succ (C := C) hy
  have t2 := cut_tot (roots := R.length) (C := C) (p := p) (k := i) (by omega)
  refine ⟨c1, a1, by rw [List.length_append, rulesTo_length]; omega, ?_⟩
  obtain ⟨m, hm⟩ : ∃ m : Nat, s.2 = R.length + tot C p.items i + m := ⟨(s.2 - (R.length + tot C p.items i)).toNat, by omega⟩
  have hml : m < frLen C y.cert := by omega
  have e1 : s.2.toNat = R.length + tot C p.items i + m := by omega
  have e2 : (newS R.length C p s).2.toNat = R.length + tot C (cutE R.length C p).items (toI R.length C p i) + m := by omega
  rw [e1, e2, rules_at R b1 hy hml, rules_at R hlt ha (by exact hml)]
  rfl
theorem certsTo_cut {k : Nat} (hk : k ≤ p.items.length) : ∀ c ∈ certsTo (cutE R.length C p).items (toI R.length C p k), c ∈ certsTo p.items k := fun c hc => by
 unfold certsTo at hc ⊢
 obtain ⟨y, hy, rfl⟩ := List.mem_map.1 hc
 unfold toI at hy
 rw [cut_items, keepTo_take _ _ _ _ _ hk] at hy
 obtain ⟨j, hj⟩ := List.mem_iff_getElem?.1 hy
 obtain ⟨i, z, h1, h2, _, rfl, _⟩ := keepTo_get _ _ _ _ _ hj
 refine List.mem_map.2 ⟨z, ?_, rfl⟩
 refine List.mem_iff_getElem?.2 ⟨i, ?_⟩
 rw [List.getElem?_take, if_pos h1, h2]
theorem Right13.cut (h : Right13 R C p x u) : Right13 R C (cutE R.length C p) x u := by
 have hO := h.cutOk
 refine ⟨fun k' y hy => ?_, ?_⟩
 ·obtain ⟨k, z, hz, hn, rfl, rfl⟩ := cut_get hy
  have hkl := (List.getElem?_eq_some_iff.1 hz).1
  obtain ⟨h1, h2, h3, c, hc, h4, h5, h6⟩ := itemE_zero.1 (h.items k z hz)
  refine itemE_zero.2 ⟨h1, h2, fun q => h3 (certsTo_cut (Nat.le_of_lt hkl) _ q), c, hc, h4, by show (z.paths.map _).length = _; rw [List.length_map]; exact h5, pathsB_of (by show (z.paths.map _).length = _; rw [List.length_map]; exact h5) fun j w l hw hl => ?_⟩
  have hl' : (z.paths.map (anewL R.length (begins C p.items) (goneTo C p.items (needB R.length (begins C p.items) p))))[j]? = some l := hl
  rw [List.getElem?_map] at hl'
  obtain ⟨m, hm, rfl⟩ := Option.map_eq_some_iff.1 hl'
  refine leads_as (newS R.length C p) (fun s hs => ?_) (pathsB_at h6 hw hm)
  have hm2 := List.mem_of_getElem? hm
  have h7 := hO.stands hz hm2 hs
  exact rule_goes hO (Nat.le_of_lt hkl) h7.1 h7.2 (fun i ho => need_item hO hz hn hm2 hs ho)
 ·rw [cut_steps]
  refine leads_as (newS R.length C p) (fun s hs => ?_) h.last
  have h7 := hO.lasts hs
  exact rule_goes hO (Nat.le_refl _) h7.1 h7.2 (fun i ho => need_steps hO hs ho)
end
theorem cut_len (roots : Int) (C : List BCert) (p : BProof) : (cutE roots C p).items.length ≤ p.items.length := by rw [cut_items]; exact keepTo_length _ _ _ _ _ _
section
variable {R : List BRul} {C : List BCert} {b : Int} {s : ASt} {x u : ByteArray}
theorem order_at (h : AInv R C b s) {k : Nat} {y : BItem} (hy : (wholeM R C b s x u).items[k]? = some y) : ∃ i c, s.order[k]? = some i ∧ i < C.length ∧ C[i]? = some c ∧ y = ⟨(i : Int), pathsM (R ++ rulesOf C (s.order.take k)) b c⟩ := by
 unfold wholeM itemsM at hy
 simp only at hy
 rw [List.getElem?_map] at hy
 obtain ⟨k2, hk2, hy2⟩ := Option.map_eq_some_iff.1 hy
 obtain ⟨h1, h2⟩ := List.getElem?_eq_some_iff.1 hk2
 rw [List.length_range] at h1
 rw [List.getElem_range] at h2
 subst h2
 obtain ⟨i, hi⟩ : ∃ i, s.order[k]? = some i := ⟨_, List.getElem?_eq_getElem h1⟩
 have hic := h.lt i (List.mem_of_getElem? hi)
 obtain ⟨c, hc⟩ : ∃ c, C[i]? = some c := ⟨_, List.getElem?_eq_getElem hic⟩
 rw [itemM_at hi hc] at hy2
 exact ⟨i, c, hi, hic, hc, hy2.symm⟩
theorem whole_length : (wholeM R C b s x u).items.length = s.order.length := by
 unfold wholeM itemsM
 simp only
 rw [List.length_map, List.length_range]
theorem whole_to (h : AInv R C b s) : ∀ {k : Nat}, k ≤ s.order.length → rulesTo C (wholeM R C b s x u).items k = rulesOf C (s.order.take k) ∧ certsTo (wholeM R C b s x u).items k = s.order.take k
 | 0, _ => by unfold rulesTo certsTo rulesOf; simp
 | k + 1, hk => by
  obtain ⟨h1, h2⟩ := whole_to h (k := k) (by omega)
  obtain ⟨y, hy⟩ : ∃ y, (wholeM R C b s x u).items[k]? = some y := ⟨_, List.getElem?_eq_getElem (by rw [whole_length]; omega)⟩
  obtain ⟨i, c, hi, _, hc, e⟩ := order_at h hy
  rw [rulesTo_succ hy, h1, List.take_add_one, hi]
  constructor
  ·show _ = rulesOf C (s.order.take k ++ [i])
   rw [rulesOf_snoc hc]
   congr 1
   unfold rulesI
   rw [e]
   simp only [Int.toNat_natCast, hc]
  ·unfold certsTo at h2 ⊢
   rw [List.take_add_one, hy, List.map_append, h2, e]
   rfl
theorem make_right (hacc : acceptE R C b = .ok s) (ht : tellPE s.rules x u b = 0) : Right13 R C (wholeM R C b s x u) x u := by
 have F := (accept_fin hacc).1
 have hall := (accept_ok hacc).1
 have lead : ∀ {Q : List BRul} {f t : ByteArray}, tellPE Q f t b = 0 → leadsB Q f t (tellP Q f t b) = true := fun {Q f t} hq => by
  obtain ⟨m1, _, l, e, _, hw⟩ := tellP_good hq
  refine leads_iff.2 ⟨m1, t.data.toList, ?_, ?_⟩
  ·rw [e]
   have := walkI_walkP (Q.map brul) l f.data.toList
   unfold castS
   rw [this]
   exact hw
  ·unfold bar; simp
 refine ⟨fun k y hy => ?_, ?_⟩
 ·have hk : k < s.order.length := by rw [← whole_length (R := R) (C := C) (b := b) (x := x) (u := u)]; exact (List.getElem?_eq_some_iff.1 hy).1
  obtain ⟨h1, h2⟩ := whole_to (x := x) (u := u) F.inv (Nat.le_of_lt hk)
  obtain ⟨i, c, hi, hil, hc, rfl⟩ := order_at F.inv hy
  rw [h1, h2]
  have hl : (pathsM (R ++ rulesOf C (s.order.take k)) b c).length = c.fr.length := by unfold pathsM; rw [List.length_map]
  refine itemE_zero.2 ⟨by simp only; omega, by simp only; omega, ?_, c, by simp only [Int.toNat_natCast]; exact hc, List.all_eq_true.1 hall c (List.mem_of_getElem? hc), hl, pathsB_of hl fun j w l hw hlj => ?_⟩
  ·simp only [Int.toNat_natCast]
   intro hm
   obtain ⟨j, hj⟩ := List.mem_iff_getElem?.1 hm
   rw [List.getElem?_take] at hj
   split at hj
   ·rename_i hjk
    obtain ⟨q1, q2⟩ := List.getElem?_eq_some_iff.1 hj
    obtain ⟨q3, q4⟩ := List.getElem?_eq_some_iff.1 hi
    exact absurd (q2.trans q4.symm) (List.pairwise_iff_getElem.1 F.inv.nd j k q1 q3 hjk)
   ·cases hj
  ·have hlj' : (c.fr.map fun f => tellP (R ++ rulesOf C (s.order.take k)) f (atomW c.sg) b)[j]? = some l := hlj
   rw [List.getElem?_map, hw] at hlj'
   cases hlj'
   exact lead (back_tell (F.inv.just k i c hi hc) w (List.mem_of_getElem? hw))
 ·have h1 := (whole_to (x := x) (u := u) F.inv (Nat.le_refl _)).1
  rw [whole_length, h1, List.take_length, ← F.inv.rules]
  exact lead ht
theorem makeE_yes (hacc : acceptE R C b = .ok s) (ht : tellPE s.rules x u b = 0) : makeE R C x u b = (0, cutE R.length C (wholeM R C b s x u)) := by
 unfold makeE
 rw [hacc]
 simp only
 rw [if_pos ht, if_pos (make_right hacc ht).cutOk]
theorem walk_reach {Q : List Rul} : ∀ {l : BSteps} {w v : Wd}, walkI Q w l = some v → Reach Q w v
 | [], w, v, h => by cases h; exact .refl
 | y :: t, w, v, h => by
  unfold walkI at h
  cases hx : stepI Q w y with
  | none => rw [hx] at h; cases h
  | some z =>
   rw [hx] at h
   refine Reach.trans (.tail .refl ?_) (walk_reach h)
   unfold stepI at hx
   split at hx
   ·rename_i q
    cases hx
    refine ⟨(y.1.toNat, y.2.toNat), List.mem_map.2 ⟨(y.1.toNat, y.2.toNat), ?_, rfl⟩⟩
    have e1 : ((y.1.toNat : Int), (y.2.toNat : Int)) = y := by
     rw [Int.toNat_of_nonneg q.2.2.2.1, Int.toNat_of_nonneg q.1]
    exact step_hits.1 (by rw [e1]; exact q)
   ·cases hx
theorem leads_tell {Q S : List BRul} {f t : ByteArray} {l : BSteps} (h : leadsB Q f t l = true) (hsub : ∀ r ∈ Q, r ∈ S) (he : rowErr S f b = 0) : tellB S f t b = true := by
 obtain ⟨_, y, hy, rfl⟩ := leads_iff.1 h
 refine (tellB_iff he).2 ?_
 have e : (bar y).data.toList = y := by unfold bar; simp
 rw [e]
 exact (walk_reach hy).mono fun z hz => by
  obtain ⟨r, hr, rfl⟩ := List.mem_map.1 hz
  exact List.mem_map_of_mem (hsub r hr)
theorem right_sound {p : BProof} (hacc : acceptE R C b = .ok s) (h : Right13 R C p x u) : (∀ y ∈ p.items, y.cert.toNat ∈ s.order) ∧ (rowErr s.rules x b = 0 → tellB s.rules x u b = true) := by
 have F := (accept_fin hacc).1
 have sub : ∀ k, k ≤ p.items.length → (∀ (j : Nat) y, j < k → p.items[j]? = some y → y.cert.toNat ∈ s.order) → ∀ r ∈ R ++ rulesTo C p.items k, r ∈ s.rules := fun k _ hj r hr => by
  rw [F.inv.rules]
  rcases List.mem_append.1 hr with q | q
  ·exact List.mem_append_left _ q
  ·refine List.mem_append_right _ ?_
   unfold rulesTo at q
   obtain ⟨y, hy, hq⟩ := List.mem_flatMap.1 q
   obtain ⟨j, hjy⟩ := List.mem_iff_getElem?.1 hy
   rw [List.getElem?_take] at hjy
   split at hjy
   ·rename_i hjk
    unfold rulesOf
    exact List.mem_flatMap.2 ⟨y.cert.toNat, hj j y hjk hjy, hq⟩
   ·cases hjy
 have key : ∀ n, ∀ (k : Nat) y, k < n → p.items[k]? = some y → y.cert.toNat ∈ s.order := by
  intro n
  induction n with
  | zero => intro k y hk; omega
  | succ n ih =>
   intro k y hk hy
   obtain ⟨h1, h2, _, c, hc, _, h5, h6⟩ := itemE_zero.1 (h.items k y hy)
   by_cases hn : y.cert.toNat ∈ s.order
   ·exact hn
   exfalso
   obtain ⟨f, hf, e1, e2⟩ := back_no (F.full _ c hc hn)
   obtain ⟨j, hj⟩ := List.mem_iff_getElem?.1 hf
   obtain ⟨l, hl⟩ : ∃ l, y.paths[j]? = some l := ⟨_, List.getElem?_eq_getElem (by have := (List.getElem?_eq_some_iff.1 hj).1; omega)⟩
   have hkl := (List.getElem?_eq_some_iff.1 hy).1
   have := leads_tell (pathsB_at h6 hj hl) (sub k (Nat.le_of_lt hkl) fun i z hi hz => ih i z (by omega) hz) e1
   rw [this] at e2
   cases e2
 have all : ∀ (k : Nat) y, p.items[k]? = some y → y.cert.toNat ∈ s.order := fun k y hy => key (k + 1) k y (by omega) hy
 refine ⟨fun y hy => ?_, fun he => leads_tell h.last (sub _ (Nat.le_refl _) fun j y _ hy => all j y hy) he⟩
 obtain ⟨k, hk⟩ := List.mem_iff_getElem?.1 hy
 exact all k y hk
end
end Go.Proofs.YthdfplafihmejaaGreat
