/-
  QCutP: what else.
-/
import Derived.Test.YthdfplafihmejaaGreatQCutP
namespace Go.Proofs.YthdfplafihmejaaGreat
open Go.RowKit Go.Maps

section
variable {roots : Int} {C : List BCert} {p : BProof}
end
section
variable (roots : Int) (C : List BCert) (B : List Nat) (gone : Nat → Nat) (need : List Bool) (I : List BItem)
end
section
variable {roots : Int} {C : List BCert} {p : BProof}
end
end Go.Proofs.YthdfplafihmejaaGreat

namespace Go.Proofs.YthdfplafihmejaaGreat
open Go.RowKit Go.Maps

theorem rulesI_length (C : List BCert) (x : BItem) : (rulesI C x).length = frLen C x.cert := by
 unfold rulesI frLen
 cases C[x.cert.toNat]? with
 | none => rfl
 | some c => simp only; unfold crules; rw [List.length_map]
theorem rulesTo_succ {C : List BCert} {I : List BItem} {k : Nat} {x : BItem} (h : I[k]? = some x) : rulesTo C I (k + 1) = rulesTo C I k ++ rulesI C x := by
 unfold rulesTo
 rw [List.take_add_one, h, List.flatMap_append]
 simp
theorem rulesTo_length (C : List BCert) (I : List BItem) (k : Nat) : (rulesTo C I k).length = tot C I k := by
 unfold rulesTo tot
 rw [List.length_flatMap]
 congr 1
 exact List.map_congr_left fun x _ => rulesI_length C x
theorem itemE_zero {R : List BRul} {C : List BCert} {seen : List Nat} {x : BItem} : itemE R C seen x = 0 ↔ 0 ≤ x.cert ∧ x.cert < C.length ∧ x.cert.toNat ∉ seen ∧ ∃ c, C[x.cert.toNat]? = some c ∧ certB c = true ∧ x.paths.length = c.fr.length ∧ pathsB R c x.paths = true := by
 unfold itemE
 by_cases h1 : x.cert < 0 ∨ (C.length : Int) ≤ x.cert
 ·rw [if_pos h1]
  exact ⟨fun e => (by cases e), fun ⟨a, b, _⟩ => by omega⟩
 rw [if_neg h1]
 by_cases h2 : x.cert.toNat ∈ seen
 ·rw [if_pos h2]
  exact ⟨fun e => (by cases e), fun ⟨_, _, c, _⟩ => absurd h2 c⟩
 rw [if_neg h2]
 obtain ⟨c, hc⟩ : ∃ c, C[x.cert.toNat]? = some c := ⟨_, List.getElem?_eq_getElem (by omega)⟩
 rw [hc]
 simp only
 by_cases h3 : certB c = true ∧ x.paths.length = c.fr.length
 ·rw [if_pos h3]
  by_cases h4 : pathsB R c x.paths = true
  ·rw [if_pos h4]
   exact ⟨fun _ => ⟨by omega, by omega, h2, c, rfl, h3.1, h3.2, h4⟩, fun _ => rfl⟩
  ·rw [if_neg h4]
   exact ⟨fun e => (by cases e), fun ⟨_, _, _, d, hd, _, _, q⟩ => by cases hd; exact absurd q h4⟩
 ·rw [if_neg h3]
  exact ⟨fun e => (by cases e), fun ⟨_, _, _, d, hd, q1, q2, _⟩ => by cases hd; exact absurd ⟨q1, q2⟩ h3⟩
theorem pathsB_at {R : List BRul} {c : BCert} {ps : List BSteps} (h : pathsB R c ps = true) {j : Nat} {x : ByteArray} {l : BSteps} (h1 : c.fr[j]? = some x) (h2 : ps[j]? = some l) : leadsB R x (atomW c.sg) l = true := by
 unfold pathsB at h
 have := List.all_eq_true.1 h j (List.mem_range.2 (List.getElem?_eq_some_iff.1 h2).1)
 rwa [List.getD_eq_getElem?_getD, List.getD_eq_getElem?_getD, h1, h2] at this
theorem pathsB_of {R : List BRul} {c : BCert} {ps : List BSteps} (hl : ps.length = c.fr.length) (h : ∀ (j : Nat) x l, c.fr[j]? = some x → ps[j]? = some l → leadsB R x (atomW c.sg) l = true) : pathsB R c ps = true := by
 unfold pathsB
 rw [List.all_eq_true]
 intro j hj
 rw [List.mem_range] at hj
 obtain ⟨l, h2⟩ : ∃ l, ps[j]? = some l := ⟨_, List.getElem?_eq_getElem hj⟩
 obtain ⟨x, h1⟩ : ∃ x, c.fr[j]? = some x := ⟨_, List.getElem?_eq_getElem (by omega)⟩
 rw [List.getD_eq_getElem?_getD, List.getD_eq_getElem?_getD, h1, h2]
 exact h j x l h1 h2
theorem stepI_in {R : List Rul} {w u : Wd} {s : Int × Int} (h : stepI R w s = some u) : 0 ≤ s.2 ∧ s.2 < R.length := by
 unfold stepI at h
 split at h
 ·rename_i q; exact ⟨q.1, q.2.1⟩
 ·cases h
theorem walk_in {R : List Rul} : ∀ {l : BSteps} {w u : Wd}, walkI R w l = some u → ∀ s ∈ l, 0 ≤ s.2 ∧ s.2 < R.length
 | [], w, u, _, s, hs => by cases hs
 | x :: t, w, u, h, s, hs => by
  unfold walkI at h
  cases hx : stepI R w x with
  | none => rw [hx] at h; cases h
  | some v =>
   rw [hx] at h
   rcases List.mem_cons.1 hs with rfl | hs
   ·exact stepI_in hx
   ·exact walk_in h s hs
theorem leads_iff {R : List BRul} {x u : ByteArray} {l : BSteps} : leadsB R x u l = true ↔ mayB x.data.toList = true ∧ ∃ y, walkI (R.map brul) x.data.toList l = some y ∧ bar y = u := by
 unfold leadsB
 rw [Bool.and_eq_true]
 cases walkI (R.map brul) x.data.toList l with
 | none => exact ⟨fun ⟨_, h⟩ => (by cases h), fun ⟨_, _, h, _⟩ => by cases h⟩
 | some y => exact ⟨fun ⟨h1, h2⟩ => ⟨h1, y, rfl, of_decide_eq_true h2⟩, fun ⟨h1, z, h2, h3⟩ => ⟨h1, by cases h2; exact decide_eq_true h3⟩⟩
theorem leads_in {R : List BRul} {x u : ByteArray} {l : BSteps} (h : leadsB R x u l = true) : ∀ s ∈ l, 0 ≤ s.2 ∧ s.2 < R.length := by
 obtain ⟨_, y, hy, _⟩ := leads_iff.1 h
 intro s hs
 have := walk_in hy s hs
 rwa [List.length_map] at this
section
variable {R : List BRul} {C : List BCert} {p : BProof} {x u : ByteArray}
theorem Right13.cutOk (h : Right13 R C p x u) : CutOk R.length C p := by
 refine ⟨by omega, fun k y hy => ?_, ?_⟩
 ·obtain ⟨h1, h2, _, c, hc, _, h4, h5⟩ := itemE_zero.1 (h.items k y hy)
  unfold itemB
  simp only [Bool.and_eq_true, decide_eq_true_eq, List.all_eq_true]
  refine ⟨h1, h2, fun l hl => ?_⟩
  obtain ⟨j, hj⟩ := List.mem_iff_getElem?.1 hl
  obtain ⟨z, hz⟩ : ∃ z, c.fr[j]? = some z := ⟨_, List.getElem?_eq_getElem (by have := (List.getElem?_eq_some_iff.1 hj).1; omega)⟩
  have := leads_in (pathsB_at h5 hz hj)
  unfold standB
  rw [List.all_eq_true]
  intro s hs
  have h6 := this s hs
  rw [List.length_append, rulesTo_length] at h6
  unfold standS
  simp only [Bool.and_eq_true, decide_eq_true_eq]
  omega
 ·unfold standB
  rw [List.all_eq_true]
  intro s hs
  have h6 := leads_in h.last s hs
  rw [List.length_append, rulesTo_length] at h6
  unfold standS
  simp only [Bool.and_eq_true, decide_eq_true_eq]
  omega
end
section
variable {R : List BRul} {C : List BCert} {b : Int} {s : ASt} {x u : ByteArray}
theorem order_at (h : AInv R C b s) {k : Nat} {y : BItem} (hy : (wholeM R C b s x u).items[k]? = some y) : ∃ i c, s.order[k]? = some i ∧ i < C.length ∧ C[i]? = some c ∧ y = ⟨(i : Int), pathsM (R ++ rulesOf C (s.order.take k)) b c⟩ := by
 unfold wholeM itemsM at hy
 simp only at hy
 rw [List.getElem?_map] at hy
 obtain ⟨k2, hk2, hy2⟩ := Option.map_eq_some_iff.1 hy
 obtain ⟨h1, h2⟩ := List.getElem?_eq_some_iff.1 hk2
 rw [List.length_range] at h1
 rw [List.getElem_range] at h2
 subst h2
 obtain ⟨i, hi⟩ : ∃ i, s.order[k]? = some i := ⟨_, List.getElem?_eq_getElem h1⟩
 have hic := h.lt i (List.mem_of_getElem? hi)
 obtain ⟨c, hc⟩ : ∃ c, C[i]? = some c := ⟨_, List.getElem?_eq_getElem hic⟩
 rw [itemM_at hi hc] at hy2
 exact ⟨i, c, hi, hic, hc, hy2.symm⟩
theorem whole_length : (wholeM R C b s x u).items.length = s.order.length := by
 unfold wholeM itemsM
 simp only
 rw [List.length_map, List.length_range]
theorem whole_to (h : AInv R C b s) : ∀ {k : Nat}, k ≤ s.order.length → rulesTo C (wholeM R C b s x u).items k = rulesOf C (s.order.take k) ∧ certsTo (wholeM R C b s x u).items k = s.order.take k
 | 0, _ => by unfold rulesTo certsTo rulesOf; simp
 | k + 1, hk => by
  obtain ⟨h1, h2⟩ := whole_to h (k := k) (by omega)
  obtain ⟨y, hy⟩ : ∃ y, (wholeM R C b s x u).items[k]? = some y := ⟨_, List.getElem?_eq_getElem (by rw [whole_length]; omega)⟩
  obtain ⟨i, c, hi, _, hc, e⟩ := order_at h hy
  rw [rulesTo_succ hy, h1, List.take_add_one, hi]
  constructor
  ·show _ = rulesOf C (s.order.take k ++ [i])
   rw [rulesOf_snoc hc]
   congr 1
   unfold rulesI
   rw [e]
   simp only [Int.toNat_natCast, hc]
  ·unfold certsTo at h2 ⊢
   rw [List.take_add_one, hy, List.map_append, h2, e]
   rfl
theorem make_right (hacc : acceptE R C b = .ok s) (ht : tellPE s.rules x u b = 0) : Right13 R C (wholeM R C b s x u) x u := by
 have F := (accept_fin hacc).1
 have hall := (accept_ok hacc).1
 have lead : ∀ {Q : List BRul} {f t : ByteArray}, tellPE Q f t b = 0 → leadsB Q f t (tellP Q f t b) = true := fun {Q f t} hq => by
  obtain ⟨m1, _, l, e, _, hw⟩ := tellP_good hq
  refine leads_iff.2 ⟨m1, t.data.toList, ?_, ?_⟩
  ·rw [e]
   have := walkI_walkP (Q.map brul) l f.data.toList
   unfold castS
   rw [this]
   exact hw
  ·unfold bar; simp
 refine ⟨fun k y hy => ?_, ?_⟩
 ·have hk : k < s.order.length := by rw [← whole_length (R := R) (C := C) (b := b) (x := x) (u := u)]; exact (List.getElem?_eq_some_iff.1 hy).1
  obtain ⟨h1, h2⟩ := whole_to (x := x) (u := u) F.inv (Nat.le_of_lt hk)
  obtain ⟨i, c, hi, hil, hc, rfl⟩ := order_at F.inv hy
  rw [h1, h2]
  have hl : (pathsM (R ++ rulesOf C (s.order.take k)) b c).length = c.fr.length := by unfold pathsM; rw [List.length_map]
  refine itemE_zero.2 ⟨by simp only; omega, by simp only; omega, ?_, c, by simp only [Int.toNat_natCast]; exact hc, List.all_eq_true.1 hall c (List.mem_of_getElem? hc), hl, pathsB_of hl fun j w l hw hlj => ?_⟩
  ·simp only [Int.toNat_natCast]
   intro hm
   obtain ⟨j, hj⟩ := List.mem_iff_getElem?.1 hm
   rw [List.getElem?_take] at hj
   split at hj
   ·rename_i hjk
    obtain ⟨q1, q2⟩ := List.getElem?_eq_some_iff.1 hj
    obtain ⟨q3, q4⟩ := List.getElem?_eq_some_iff.1 hi
    exact absurd (q2.trans q4.symm) (List.pairwise_iff_getElem.1 F.inv.nd j k q1 q3 hjk)
   ·cases hj
  ·have hlj' : (c.fr.map fun f => tellP (R ++ rulesOf C (s.order.take k)) f (atomW c.sg) b)[j]? = some l := hlj
   rw [List.getElem?_map, hw] at hlj'
   cases hlj'
   exact lead (back_tell (F.inv.just k i c hi hc) w (List.mem_of_getElem? hw))
 ·have h1 := (whole_to (x := x) (u := u) F.inv (Nat.le_refl _)).1
  rw [whole_length, h1, List.take_length, ← F.inv.rules]
  exact lead ht
theorem makeE_yes (hacc : acceptE R C b = .ok s) (ht : tellPE s.rules x u b = 0) : makeE R C x u b = (0, cutE R.length C (wholeM R C b s x u)) := by
 unfold makeE
 rw [hacc]
 simp only
 rw [if_pos ht, if_pos (make_right hacc ht).cutOk]
end
end Go.Proofs.YthdfplafihmejaaGreat
