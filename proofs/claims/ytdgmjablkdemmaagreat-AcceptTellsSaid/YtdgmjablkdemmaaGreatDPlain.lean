/-
  What the reference's like and Check say, in plain Lean.
-/
import Derived.Test.YtdgmjablkdemmaaGreatSOrd
import Derived.Test.YtdgmjablkdemmaaGreatCLike
import Derived.Test.YtdgmjablkdemmaaGreatRRefA
namespace Go.Proofs.YtdgmjablkdemmaaGreat
open Go.RowKit Go.Maps

theorem lists_getD {l : List ByteArray} {j : Nat} (h : j < l.length) : (lists l).getD j [] = (l[j]).data.toList := lists_getB (List.getElem?_eq_getElem h)
theorem setB_sorted {l : List ByteArray} (h : setB l = true) : l.Pairwise fun a b => lessW a b = true := by
  obtain ⟨_, _, hs⟩ := of_decide_eq_true h
  rw [lists_len] at hs
  rw [List.pairwise_iff_getElem]
  intro i j hi hj hij
  induction j with
  | zero => omega
  | succ j ih =>
    have h1 := (hs (j + 1) hj).2 (by omega)
    rw [lists_getD hj, Nat.add_sub_cancel, lists_getD (show j < l.length by omega)] at h1
    by_cases e : i = j
    · subst e; exact h1
    · exact lessB_trans (ih (by omega) (by omega)) h1
theorem sorted_same : ∀ {l m : List ByteArray}, l.Pairwise (fun a b => lessW a b = true) → m.Pairwise (fun a b => lessW a b = true) → (∀ x, x ∈ l ↔ x ∈ m) → l = m
  | [], [], _, _, _ => rfl
  | [], y :: m, _, _, h => by have := (h y).2 List.mem_cons_self; cases this
  | x :: l, [], _, _, h => by have := (h x).1 List.mem_cons_self; cases this
  | x :: l, y :: m, hl, hm, h => by
    obtain ⟨a1, a2⟩ := List.pairwise_cons.1 hl
    obtain ⟨b1, b2⟩ := List.pairwise_cons.1 hm
    have irr : ∀ z : ByteArray, lessW z z = true → False := fun z q => by rw [show lessW z z = false from lessB_irrefl _] at q; cases q
    have e : x = y := by
      rcases List.mem_cons.1 ((h x).1 List.mem_cons_self) with q | q
      · exact q
      rcases List.mem_cons.1 ((h y).2 List.mem_cons_self) with r | r
      · exact r.symm
      exact (irr x (lessB_trans (a1 y r) (b1 x q))).elim
    subst e
    congr 1
    refine sorted_same a2 b2 fun z => ⟨fun hz => ?_, fun hz => ?_⟩
    · rcases List.mem_cons.1 ((h z).1 (List.mem_cons_of_mem _ hz)) with rfl | q
      · exact (irr z (a1 z hz)).elim
      · exact q
    · rcases List.mem_cons.1 ((h z).2 (List.mem_cons_of_mem _ hz)) with rfl | q
      · exact (irr z (b1 z hz)).elim
      · exact q
/-- The kind of a word's only atom. -/
def singleI (s : ByteArray) : Int := if alen s.data.toList = 1 then ((atomAt s.data.toList 0 / 8192 : Nat) : Int) else -1
theorem single_alone1 (s : ByteArray) (k : Nat) (z : Int) (hz : z = k) : aloneB s [k] = decide (singleI s = z) := by
  subst hz
  unfold aloneB singleI
  rw [Bool.eq_iff_iff]
  simp only [Bool.and_eq_true, decide_eq_true_eq, List.mem_singleton]
  constructor
  · rintro ⟨h1, h2⟩; rw [if_pos h1]; omega
  · intro h
    by_cases h1 : alen s.data.toList = 1
    · rw [if_pos h1] at h; exact ⟨h1, by omega⟩
    · rw [if_neg h1] at h; omega
theorem single_alone2 (s : ByteArray) : aloneB s [1, 2] = (decide (singleI s = 1) || decide (singleI s = 2)) := by
  unfold aloneB singleI
  rw [Bool.eq_iff_iff]
  simp only [Bool.and_eq_true, Bool.or_eq_true, decide_eq_true_eq, List.mem_cons, List.not_mem_nil, or_false]
  constructor
  · rintro ⟨h1, h2⟩; rw [if_pos h1]; omega
  · intro h
    by_cases h1 : alen s.data.toList = 1
    · rw [if_pos h1] at h; exact ⟨h1, by omega⟩
    · rw [if_neg h1] at h; omega
theorem word_one {u : ByteArray} {sg : Nat} (hm : mayB u.data.toList = true) (hsg : sg < 65536) : decide (u = atomW sg) = (decide (alen u.data.toList = 1) && decide (atomAt u.data.toList 0 = sg)) := by
  obtain ⟨he, h1, _, _⟩ := (mayB_iff _).1 hm
  rw [Bool.eq_iff_iff]
  simp only [Bool.and_eq_true, decide_eq_true_eq]
  have key : (atomW sg).data.toList = [UInt8.ofNat (sg / 256), UInt8.ofNat (sg % 256)] := by unfold atomW ofAtoms; simp
  constructor
  · intro e
    subst e
    rw [key]
    refine ⟨by simp [alen], ?_⟩
    unfold atomAt
    simp [UInt8.toNat_ofNat']
    omega
  · rintro ⟨e1, e2⟩
    refine bytes_ext ?_
    have h3 := ofAtoms_atoms u.data.toList he
    have h4 : atoms u.data.toList = [sg] := by unfold atoms; rw [e1, ← e2]; rfl
    rw [h4] at h3
    rw [← h3, key]
    rfl
theorem told_of {sp : ByteArray} (he : sp.data.toList.length % 2 = 0) : (⟨(ofAtoms (1 :: (atoms sp.data.toList).drop 1)).toArray⟩ : ByteArray) = toldW sp := by
  unfold toldW swapAt
  have h1 := atoms_drop 1 sp.data.toList
  have h2 : ofAtoms (1 :: (atoms sp.data.toList).drop 1) = [0, 1] ++ ofAtoms ((atoms sp.data.toList).drop 1) := by
    show [UInt8.ofNat (1 / 256), UInt8.ofNat (1 % 256)] ++ ofAtoms _ = _
    rfl
  rw [h2, ← h1, ofAtoms_atoms _ (by rw [List.length_drop]; omega)]
  rfl
theorem delB_right {c : BCert} {out : List ByteArray} (hl : 2 ≤ alen c.sp.data.toList) (hfr : setB c.fr = true) (h : RightI [c.sp, toldW c.sp] out) (hall : ∀ x ∈ [c.sp, toldW c.sp], x ∈ out) : sameB c.fr out = delB c := by
  have hm : ∀ x, x ∈ out ↔ x = c.sp ∨ x = toldW c.sp := fun x => ⟨fun hx => by simpa using h.sub x hx, fun hx => hall x (by simpa using hx)⟩
  rw [← delB_same hl hm, Bool.eq_iff_iff]
  unfold sameB hasB
  simp only [Bool.and_eq_true, decide_eq_true_eq, List.all_eq_true]
  constructor
  · rintro rfl; exact ⟨fun x hx => hx, fun x hx => hx⟩
  · rintro ⟨h1, h2⟩
    exact sorted_same (setB_sorted hfr) h.srt fun x => ⟨h1 x, h2 x⟩
/-- What the reference's like says. -/
def rlikeB (kind : Int) (len : Nat) (who : Int) (n k0 kl a0 sg : Nat) (d : Bool) : Bool :=
  if kind = 1 then decide (len = 1) && (decide (who = 1) && (decide (n = 2) && (decide (k0 = 3) && decide (kl = 5))))
  else if kind = 2 then decide (len = 1) && (decide (who = 1) && (decide (n = 1) && decide (a0 = sg)))
  else if kind = 3 then decide (len = 1) && decide (who = 2)
  else if kind = 4 then decide (len = 1) && (decide (who = 3) && (decide (n = 1) && decide (kl = 4)))
  else if kind = 5 then decide (len = 1) && ((decide (who = 1) || decide (who = 2)) && (decide (1 < n) && decide (kl = 5)))
  else if kind = 7 then d else true
theorem likeB_ref {c : BCert} {u : ByteArray} (h1 : 1 ≤ c.kind) (h7 : c.kind ≤ 7) (hu : c.fr[0]? = some u) (hm : mayB u.data.toList = true) (hsg : c.sg < 65536) :
    likeB c = rlikeB c.kind c.fr.length (singleI c.sp) (alen u.data.toList) (atomAt u.data.toList 0 / 8192) (atomAt u.data.toList (alen u.data.toList - 1) / 8192) (atomAt u.data.toList 0) c.sg (delB c) := by
  unfold likeB rlikeB
  by_cases e6 : c.kind = 6
  · rw [if_pos e6, if_neg (by omega), if_neg (by omega), if_neg (by omega), if_neg (by omega), if_neg (by omega), if_neg (by omega)]
  rw [if_neg e6]
  by_cases e7 : c.kind = 7
  · rw [if_pos e7, if_neg (by omega), if_neg (by omega), if_neg (by omega), if_neg (by omega), if_neg (by omega), if_pos e7]
  rw [if_neg e7]
  obtain ⟨kind, sg, sp, fr, f, t, n⟩ := c
  simp only at *
  match fr, hu with
  | [], hu => cases hu
  | [v], hu =>
    cases hu
    simp only [List.length_cons, List.length_nil, Nat.zero_add, decide_true, Bool.true_and]
    by_cases k1 : kind = 1
    · rw [if_pos k1, if_pos k1, single_alone1 sp 1 1 rfl]
      by_cases n2 : alen u.data.toList = 2
      · rw [n2]
      · rw [decide_eq_false n2]; simp
    rw [if_neg k1, if_neg k1]
    by_cases k2 : kind = 2
    · rw [if_pos k2, if_pos k2, single_alone1 sp 1 1 rfl, word_one hm hsg]
    rw [if_neg k2, if_neg k2]
    by_cases k3 : kind = 3
    · rw [if_pos k3, if_pos k3, single_alone1 sp 2 2 rfl]
    rw [if_neg k3, if_neg k3]
    by_cases k4 : kind = 4
    · rw [if_pos k4, if_pos k4, single_alone1 sp 3 3 rfl]
      unfold aloneB
      by_cases n2 : alen u.data.toList = 1
      · rw [n2]; simp
      · rw [decide_eq_false n2]; simp
    rw [if_neg k4, if_neg k4]
    by_cases k5 : kind = 5
    · rw [if_pos k5, if_pos k5, single_alone2]
      rfl
    omega
  | v :: v2 :: l, hu =>
    have e : decide ((v :: v2 :: l).length = 1) = false := decide_eq_false (by simp)
    simp only [e, Bool.false_and]
    by_cases k1 : kind = 1
    · rw [if_pos k1]
    rw [if_neg k1]
    by_cases k2 : kind = 2
    · rw [if_pos k2]
    rw [if_neg k2]
    by_cases k3 : kind = 3
    · rw [if_pos k3]
    rw [if_neg k3]
    by_cases k4 : kind = 4
    · rw [if_pos k4]
    rw [if_neg k4]
    by_cases k5 : kind = 5
    · rw [if_pos k5]
    omega
end Go.Proofs.YtdgmjablkdemmaaGreat
