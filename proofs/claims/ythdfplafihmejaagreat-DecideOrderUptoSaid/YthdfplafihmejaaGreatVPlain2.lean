/-
  Decide, in plain Lean: what is asked, what a why is, and what follows.
-/
import Derived.Test.YthdfplafihmejaaGreatVPlain
import Derived.Test.YthdfplafihmejaaGreatQChkP
namespace Go.Proofs.YthdfplafihmejaaGreat
open Go.RowKit Go.Maps

def overB (R : List BRul) (b : Int) (l : List ByteArray) : Bool := l.any fun x => decide (rowErr R x b ≠ 0)
theorem fitGo_val (R : List BRul) (b : Int) (c : List ByteArray) : ∀ (l : List ByteArray) (a : Int), fitGo R b c a l = if overB R b l = true then 2 else if l.all (metB R b c) = true then a else 0
 | [], a => by unfold fitGo overB; simp
 | x :: l, a => by
  unfold fitGo overB
  rw [List.any_cons, List.all_cons]
  by_cases h1 : rowErr R x b = 0
  · rw [if_neg (by simpa using h1), fitGo_val R b c l, show decide (rowErr R x b ≠ 0) = false from by simpa using h1, Bool.false_or]
    unfold overB
    split
    · rfl
    · cases h2 : metB R b c x with
      | true => simp
      | false => simp
  · rw [if_pos h1, show decide (rowErr R x b ≠ 0) = true from by simpa using h1, Bool.true_or, if_pos rfl]
theorem fitV_val (R : List BRul) (b : Int) (c l : List ByteArray) : fitV R b c l = if overB R b l = true then 2 else if l.all (metB R b c) = true then 1 else 0 := fitGo_val R b c l 1
def fitsB (R : List BRul) (b : Int) (c : List ByteArray) (op v : Int) (x : BEnt) : Bool := decide (x.1 = op) && decide (fitV R b c x.2 = v)
theorem askGo_val (R : List BRul) (b : Int) (c : List ByteArray) (op : Int) : ∀ (L : List BEnt) (k : Nat) (a : Int), (askGo R b c op k a L).1 = if L.any (fitsB R b c op 1) = true then 1 else if L.any (fitsB R b c op 2) = true then 2 else a
 | [], k, a => by unfold askGo; simp
 | x :: L, k, a => by
  unfold askGo
  rw [List.any_cons, List.any_cons]
  unfold fitsB
  by_cases h1 : x.1 = op
  · rw [if_pos h1, decide_eq_true h1, Bool.true_and, Bool.true_and]
    by_cases h2 : fitV R b c x.2 = 1
    · rw [if_pos h2, decide_eq_true h2, Bool.true_or, if_pos rfl]
    · rw [if_neg h2, decide_eq_false h2, Bool.false_or, askGo_val R b c op L]
      unfold fitsB
      split
      · rfl
      · by_cases h3 : fitV R b c x.2 = 2
        · rw [decide_eq_true h3, Bool.true_or, if_pos rfl, if_pos h3]; split <;> rfl
        · rw [decide_eq_false h3, Bool.false_or, if_neg h3]
  · rw [if_neg h1, decide_eq_false h1, Bool.false_and, Bool.false_and, Bool.false_or, Bool.false_or, askGo_val R b c op L]
    rfl
/-! a why, looked through -/
def toB (c : List ByteArray) (t : Int) : Bool := decide (0 ≤ t) && decide (t < c.length)
def proofsE (R : List BRul) (C : List BCert) (c : List ByteArray) : List ByteArray → List Int → List BProof → Int
 | w :: W, t :: T, p :: P => if check13 R C p w (c.getD t.toNat ⟨#[]⟩) = 0 then proofsE R C c W T P else check13 R C p w (c.getD t.toNat ⟨#[]⟩)
 | _, _, _ => 0
theorem proofsE_step {R : List BRul} {C : List BCert} {c W : List ByteArray} {T : List Int} {P : List BProof} {k : Nat} {w : ByteArray} {t : Int} {p : BProof} (h1 : W[k]? = some w) (h2 : T[k]? = some t) (h3 : P[k]? = some p) :
  proofsE R C c (W.drop k) (T.drop k) (P.drop k) = if check13 R C p w (c.getD t.toNat ⟨#[]⟩) = 0 then proofsE R C c (W.drop (k + 1)) (T.drop (k + 1)) (P.drop (k + 1)) else check13 R C p w (c.getD t.toNat ⟨#[]⟩) := by
 rw [List.drop_eq_getElem_cons (List.getElem?_eq_some_iff.1 h1).1, List.drop_eq_getElem_cons (List.getElem?_eq_some_iff.1 h2).1, List.drop_eq_getElem_cons (List.getElem?_eq_some_iff.1 h3).1, (List.getElem?_eq_some_iff.1 h1).2, (List.getElem?_eq_some_iff.1 h2).2, (List.getElem?_eq_some_iff.1 h3).2, proofsE]
theorem proofsE_zero {R : List BRul} {C : List BCert} {c : List ByteArray} : ∀ {W : List ByteArray} {T : List Int} {P : List BProof}, T.length = W.length → P.length = W.length → (proofsE R C c W T P = 0 ↔ ∀ (j : Nat) w t p, W[j]? = some w → T[j]? = some t → P[j]? = some p → check13 R C p w (c.getD t.toNat ⟨#[]⟩) = 0)
 | [], T, P, _, _ => ⟨fun _ j w t p h => by simp at h, fun _ => by unfold proofsE; rfl⟩
 | w :: W, [], P, h, _ => by simp at h
 | w :: W, t :: T, [], _, h => by simp at h
 | w :: W, t :: T, p :: P, h1, h2 => by
  unfold proofsE
  have ih := proofsE_zero (R := R) (C := C) (c := c) (W := W) (T := T) (P := P) (by simpa using h1) (by simpa using h2)
  by_cases h : check13 R C p w (c.getD t.toNat ⟨#[]⟩) = 0
  · rw [if_pos h, ih]
    constructor
    · intro q j w' t' p' e1 e2 e3
      cases j with
      | zero => simp at e1 e2 e3; subst e1 e2 e3; exact h
      | succ j => exact q j w' t' p' (by simpa using e1) (by simpa using e2) (by simpa using e3)
    · intro q j w' t' p' e1 e2 e3
      exact q (j + 1) w' t' p' (by simpa using e1) (by simpa using e2) (by simpa using e3)
  · rw [if_neg h]
    exact ⟨fun q => absurd q h, fun q => q 0 w t p rfl rfl rfl⟩
def atB (L : List BEnt) (op i : Int) : Bool := decide (0 ≤ i) && (decide (i < L.length) && decide ((L.map (·.1)).getD i.toNat (op + 1) = op))
def chkE (R : List BRul) (C : List BCert) (L : List BEnt) (op : Int) (c : List ByteArray) (y : BWhy) : Int :=
 if listB C L c = true then (if 0 ≤ op ∧ op < 8 then (if atB L op y.entry = true ∧ (y.ways.length = (whoE L y.entry).length ∧ y.proofs.length = (whoE L y.entry).length) ∧ y.ways.all (toB c) = true then proofsE R C c (whoE L y.entry) y.ways y.proofs else 10) else 1) else 2
theorem atB_iff {L : List BEnt} {op i : Int} : atB L op i = true ↔ 0 ≤ i ∧ ∃ x, L[i.toNat]? = some x ∧ x.1 = op := by
 unfold atB
 rw [Bool.and_eq_true, Bool.and_eq_true, decide_eq_true_iff, decide_eq_true_iff, decide_eq_true_iff]
 constructor
 · rintro ⟨h1, h2, h3⟩
   have hl : i.toNat < L.length := by omega
   refine ⟨h1, _, List.getElem?_eq_getElem hl, ?_⟩
   rw [List.getD_eq_getElem?_getD, List.getElem?_map, List.getElem?_eq_getElem hl] at h3
   exact h3
 · rintro ⟨h1, x, h2, h3⟩
   have hl := (List.getElem?_eq_some_iff.1 h2).1
   refine ⟨h1, by omega, ?_⟩
   rw [List.getD_eq_getElem?_getD, List.getElem?_map, h2]
   exact h3
theorem whoE_at {L : List BEnt} {i : Int} {x : BEnt} (h : L[i.toNat]? = some x) : whoE L i = x.2 := by unfold whoE; rw [h]
/-! what entries that may be say -/
theorem new_may : ∀ {l L : List BEnt}, newE L l = 0 → ∀ x ∈ l, setB x.2 = true
 | [], L, _, x, hx => by cases hx
 | y :: l, L, h, x, hx => by
  unfold newE at h
  by_cases h0 : addE y L = 0
  · rw [if_pos h0] at h
    rcases List.mem_cons.1 hx with rfl | hx
    · exact (entB_iff.1 (addE_zero h0).1).2
    · exact new_may h x hx
  · rw [if_neg h0] at h; exact absurd h h0
theorem leads_own {R : List BRul} {x : ByteArray} (h : mayB x.data.toList = true) : check13 R [] ⟨[], []⟩ x x = 0 ∧ ∀ C, check13 R C ⟨[], []⟩ x x = 0 := by
 have : ∀ C, check13 R C ⟨[], []⟩ x x = 0 := fun C => check_zero.2 ⟨fun k y hy => by simp at hy, by
  rw [leads_iff]
  exact ⟨h, _, rfl, rfl⟩⟩
 exact ⟨this [], this⟩
section
variable {R : List BRul} {C : List BCert} {L : List BEnt} {op : Int} {c : List ByteArray} {b : Int}
theorem granted_make {d : DDec} {i : Nat} {x : BEnt} (G : Granted R C L op c b d i x) {w : ByteArray} (hw : w ∈ x.2) (hs : d.short = false) : ∃ s v, acceptE R C b = .ok s ∧ d.rules = s.rules ∧ c[toW d b c w]? = some v ∧ tellPE s.rules w v b = 0 ∧ makeE R C w (c.getD (toW d b c w) ⟨#[]⟩) b = (0, cutE R.length C (wholeM R C b s w v)) := by
 obtain ⟨k1, k2, k3⟩ := granted_to G hw
 obtain ⟨v, hv⟩ : ∃ v, c[toW d b c w]? = some v := ⟨_, List.getElem?_eq_getElem k1⟩
 have hl := k3 v hv
 have hg : c.getD (toW d b c w) ⟨#[]⟩ = v := by rw [List.getD_eq_getElem?_getD, hv]; rfl
 rcases G.way with ⟨q1, _⟩ | ⟨_, s, q2, q3, q4⟩
 · rw [hs] at q1; cases q1
 unfold leadL at hl
 rw [if_neg (by rw [hs]; decide)] at hl
 have hr := k2 hs
 rw [q3] at hl hr
 have ht : tellPE s.rules w v b = 0 := by
  have := (tellL_mem hr).1 hl
  unfold tellB at this
  rw [if_pos hr, decide_eq_true_iff] at this
  unfold tellPE
  rw [if_pos hr, if_pos this]
 exact ⟨s, v, q2, q3, hv, ht, by rw [hg]; exact makeE_yes q2 ht⟩
/-- A grant's why is right. -/
theorem why_right (h : (decE R C L op c b).1 = 0) (h1 : (decE R C L op c b).2.ans = 1) : chkE R C L op c (whyE R C L c b (decE R C L op c b).2) = 0 := by
 obtain ⟨g1, g2, g3, _⟩ := decE_good h
 obtain ⟨i, x, G⟩ := dec_grant h h1
 generalize (decE R C L op c b).2 = d at G h1 ⊢
 have hx : L[d.entry.toNat]? = some x := by rw [G.entry]; exact G.at_
 have hw : whoE L d.entry = x.2 := whoE_at hx
 unfold chkE whyE
 simp only
 rw [if_pos g1, if_pos (argB_iff.1 g2).1, hw]
 have hall : (x.2.map fun x => (toW d b c x : Int)).all (toB c) = true := by
  rw [List.all_eq_true]
  intro t ht
  obtain ⟨w, hw, rfl⟩ := List.mem_map.1 ht
  have := (granted_to G hw).1
  unfold toB
  rw [decide_eq_true (by omega), decide_eq_true (by omega)]; rfl
 rw [if_pos ⟨atB_iff.2 ⟨by rw [G.entry]; omega, x, hx, G.op_⟩, ⟨by rw [List.length_map], by rw [List.length_map]⟩, hall⟩]
 rw [proofsE_zero (by rw [List.length_map]) (by rw [List.length_map])]
 intro j w t p e1 e2 e3
 rw [List.getElem?_map, e1] at e2 e3
 cases e2; cases e3
 have hwm := List.mem_of_getElem? e1
 have hm : mayB w.data.toList = true := setB_mayC (new_may (listB_iff.1 g1).2.1 x (List.mem_of_getElem? G.at_)) hwm
 rw [Int.toNat_natCast]
 unfold prfW
 cases hs : d.short with
 | true =>
  obtain ⟨k1, _, k3⟩ := granted_to G hwm
  obtain ⟨v, hv⟩ : ∃ v, c[toW d b c w]? = some v := ⟨_, List.getElem?_eq_getElem k1⟩
  have hl := k3 v hv
  unfold leadL at hl
  rw [if_pos hs, List.mem_singleton] at hl
  rw [if_pos rfl, List.getD_eq_getElem?_getD, hv, Option.getD_some, hl]
  exact (leads_own hm).2 C
 | false =>
  obtain ⟨s, v, q2, _, hv, ht, e⟩ := granted_make G hwm hs
  rw [if_neg (by decide), e, List.getD_eq_getElem?_getD, hv, Option.getD_some]
  exact check_zero.2 (make_right q2 ht).cut
theorem why_fit (h : (decE R C L op c b).1 = 0) (h1 : (decE R C L op c b).2.ans = 1) (hC : C.length ≤ 1000) : ∀ p ∈ (whyE R C L c b (decE R C L op c b).2).proofs, p.items.length ≤ 1000 := by
 obtain ⟨i, x, G⟩ := dec_grant h h1
 generalize (decE R C L op c b).2 = d at G ⊢
 have hx : L[d.entry.toNat]? = some x := by rw [G.entry]; exact G.at_
 unfold whyE
 rw [whoE_at hx]
 intro p hp
 obtain ⟨w, hw, rfl⟩ := List.mem_map.1 hp
 unfold prfW
 cases hs : d.short with
 | true => rw [if_pos rfl]; exact Nat.zero_le _
 | false =>
  obtain ⟨s, v, q2, _, _, _, e⟩ := granted_make G hw hs
  rw [if_neg (by decide), e]
  have h2 := cut_len R.length C (wholeM R C b s w v)
  rw [whole_length] at h2
  have h3 := (accept_fin q2).1.len
  exact Nat.le_trans h2 (by omega)
/-- Nothing is a why of what is denied. -/
theorem why_none (h : (decE R C L op c b).1 = 0) (h1 : (decE R C L op c b).2.ans = 0) (y : BWhy) : chkE R C L op c y ≠ 0 := by
 obtain ⟨g1, g2, g3, e⟩ := decE_good h
 intro hy
 unfold chkE at hy
 rw [if_pos g1, if_pos (argB_iff.1 g2).1] at hy
 split at hy
 rotate_left
 · cases hy
 rename_i hc
 obtain ⟨c1, ⟨c2, c3⟩, c4⟩ := hc
 obtain ⟨_, x, hx, hop⟩ := atB_iff.1 c1
 rw [whoE_at hx] at c2 c3 hy
 rw [proofsE_zero c2 c3] at hy
 rw [e] at h1
 by_cases hs : shortI op c L < L.length
 · rw [if_pos hs] at h1; cases h1
 rw [if_neg hs] at h1
 unfold runD at h1
 split at h1
 rotate_left
 · cases h1
 rename_i s hacc
 have h1 : (askGo s.rules b c op 0 0 L).1 = 0 := h1
 rw [askGo_val] at h1
 split at h1
 · cases h1
 rename_i n1
 split at h1
 · cases h1
 rename_i n2
 have f1 : fitV s.rules b c x.2 ≠ 1 := fun q => n1 (List.any_eq_true.2 ⟨x, List.mem_of_getElem? hx, by unfold fitsB; rw [decide_eq_true hop, decide_eq_true q]; rfl⟩)
 have f2 : fitV s.rules b c x.2 ≠ 2 := fun q => n2 (List.any_eq_true.2 ⟨x, List.mem_of_getElem? hx, by unfold fitsB; rw [decide_eq_true hop, decide_eq_true q]; rfl⟩)
 rw [fitV_val] at f1 f2
 by_cases o : overB s.rules b x.2 = true
 · rw [if_pos o] at f2; exact f2 rfl
 rw [if_neg o] at f1
 refine f1 (if_pos (List.all_eq_true.2 fun w hw => ?_))
 have hr : rowErr s.rules w b = 0 := by
  rw [Bool.not_eq_true] at o
  have := List.any_eq_false.1 o w hw
  simpa using this
 obtain ⟨j, hj⟩ := List.mem_iff_getElem?.1 hw
 have hjl := (List.getElem?_eq_some_iff.1 hj).1
 obtain ⟨t, ht⟩ : ∃ t, y.ways[j]? = some t := ⟨_, List.getElem?_eq_getElem (by omega)⟩
 obtain ⟨p, hp⟩ : ∃ p, y.proofs[j]? = some p := ⟨_, List.getElem?_eq_getElem (by omega)⟩
 have hz := (right_sound hacc (check_zero.1 (hy j w t p hj ht hp))).2 hr
 have htb := List.all_eq_true.1 c4 t (List.mem_of_getElem? ht)
 unfold toB at htb
 rw [Bool.and_eq_true, decide_eq_true_iff, decide_eq_true_iff] at htb
 obtain ⟨v, hv⟩ : ∃ v, c[t.toNat]? = some v := ⟨_, List.getElem?_eq_getElem (by omega)⟩
 rw [List.getD_eq_getElem?_getD, hv] at hz
 unfold metB anyB
 exact List.any_eq_true.2 ⟨v, (tellL_mem hr).2 hz, by unfold hasB; exact decide_eq_true (List.mem_of_getElem? hv)⟩
end
end Go.Proofs.YthdfplafihmejaaGreat
