/-
  Decide, in plain Lean: what is asked, what a why is, and what follows.
  Decide, in plain Lean: the answer is the truth; in whatever order certificates stand.
-/
import Derived.Test.YthdfplafihmejaaGreatVPlain
import Derived.Test.YthdfplafihmejaaGreatQChkP
namespace Go.Proofs.YthdfplafihmejaaGreat
open Go.RowKit Go.Maps

def overB (R : List BRul) (b : Int) (l : List ByteArray) : Bool := l.any fun x => decide (rowErr R x b ≠ 0)
theorem fitGo_val (R : List BRul) (b : Int) (c : List ByteArray) : ∀ (l : List ByteArray) (a : Int), fitGo R b c a l = if overB R b l = true then 2 else if l.all (metB R b c) = true then a else 0
 | [], a => by unfold fitGo overB; simp
 | x :: l, a => by
  unfold fitGo overB
  rw [List.any_cons, List.all_cons]
  by_cases h1 : rowErr R x b = 0
  · rw [if_neg (by simpa using h1), fitGo_val R b c l, show decide (rowErr R x b ≠ 0) = false from by simpa using h1, Bool.false_or]
    unfold overB
    split
    · rfl
    · cases h2 : metB R b c x with
      | true => simp
      | false => simp
  · rw [if_pos h1, show decide (rowErr R x b ≠ 0) = true from by simpa using h1, Bool.true_or, if_pos rfl]
theorem fitV_val (R : List BRul) (b : Int) (c l : List ByteArray) : fitV R b c l = if overB R b l = true then 2 else if l.all (metB R b c) = true then 1 else 0 := fitGo_val R b c l 1
def fitsB (R : List BRul) (b : Int) (c : List ByteArray) (op v : Int) (x : BEnt) : Bool := decide (x.1 = op) && decide (fitV R b c x.2 = v)
theorem askGo_val (R : List BRul) (b : Int) (c : List ByteArray) (op : Int) : ∀ (L : List BEnt) (k : Nat) (a : Int), (askGo R b c op k a L).1 = if L.any (fitsB R b c op 1) = true then 1 else if L.any (fitsB R b c op 2) = true then 2 else a
 | [], k, a => by unfold askGo; simp
 | x :: L, k, a => by
  unfold askGo
  rw [List.any_cons, List.any_cons]
  unfold fitsB
  by_cases h1 : x.1 = op
  · rw [if_pos h1, decide_eq_true h1, Bool.true_and, Bool.true_and]
    by_cases h2 : fitV R b c x.2 = 1
    · rw [if_pos h2, decide_eq_true h2, Bool.true_or, if_pos rfl]
    · rw [if_neg h2, decide_eq_false h2, Bool.false_or, askGo_val R b c op L]
      unfold fitsB
      split
      · rfl
      · by_cases h3 : fitV R b c x.2 = 2
        · rw [decide_eq_true h3, Bool.true_or, if_pos rfl, if_pos h3]; split <;> rfl
        · rw [decide_eq_false h3, Bool.false_or, if_neg h3]
  · rw [if_neg h1, decide_eq_false h1, Bool.false_and, Bool.false_and, Bool.false_or, Bool.false_or, askGo_val R b c op L]
    rfl
/-! a why, looked through -/
def toB (c : List ByteArray) (t : Int) : Bool := decide (0 ≤ t) && decide (t < c.length)
def proofsE (R : List BRul) (C : List BCert) (c : List ByteArray) : List ByteArray → List Int → List BProof → Int
 | w :: W, t :: T, p :: P => if check13 R C p w (c.getD t.toNat ⟨#[]⟩) = 0 then proofsE R C c W T P else check13 R C p w (c.getD t.toNat ⟨#[]⟩)
 | _, _, _ => 0
theorem proofsE_step {R : List BRul} {C : List BCert} {c W : List ByteArray} {T : List Int} {P : List BProof} {k : Nat} {w : ByteArray} {t : Int} {p : BProof} (h1 : W[k]? = some w) (h2 : T[k]? = some t) (h3 : P[k]? = some p) :
  proofsE R C c (W.drop k) (T.drop k) (P.drop k) = if check13 R C p w (c.getD t.toNat ⟨#[]⟩) = 0 then proofsE R C c (W.drop (k + 1)) (T.drop (k + 1)) (P.drop (k + 1)) else check13 R C p w (c.getD t.toNat ⟨#[]⟩) := by
 rw [List.drop_eq_getElem_cons (List.getElem?_eq_some_iff.1 h1).1, List.drop_eq_getElem_cons (List.getElem?_eq_some_iff.1 h2).1, List.drop_eq_getElem_cons (List.getElem?_eq_some_iff.1 h3).1, (List.getElem?_eq_some_iff.1 h1).2, (List.getElem?_eq_some_iff.1 h2).2, (List.getElem?_eq_some_iff.1 h3).2, proofsE]
def atB (L : List BEnt) (op i : Int) : Bool := decide (0 ≤ i) && (decide (i < L.length) && decide ((L.map (·.1)).getD i.toNat (op + 1) = op))
def chkE (R : List BRul) (C : List BCert) (L : List BEnt) (op : Int) (c : List ByteArray) (y : BWhy) : Int :=
 if listB C L c = true then (if 0 ≤ op ∧ op < 8 then (if atB L op y.entry = true ∧ (y.ways.length = (whoE L y.entry).length ∧ y.proofs.length = (whoE L y.entry).length) ∧ y.ways.all (toB c) = true then proofsE R C c (whoE L y.entry) y.ways y.proofs else 10) else 1) else 2
theorem atB_iff {L : List BEnt} {op i : Int} : atB L op i = true ↔ 0 ≤ i ∧ ∃ x, L[i.toNat]? = some x ∧ x.1 = op := by
 unfold atB
 rw [Bool.and_eq_true, Bool.and_eq_true, decide_eq_true_iff, decide_eq_true_iff, decide_eq_true_iff]
 constructor
 · rintro ⟨h1, h2, h3⟩
   have hl : i.toNat < L.length := by omega
   refine ⟨h1, _, List.getElem?_eq_getElem hl, ?_⟩
   rw [List.getD_eq_getElem?_getD, List.getElem?_map, List.getElem?_eq_getElem hl] at h3
   exact h3
 · rintro ⟨h1, x, h2, h3⟩
   have hl := (List.getElem?_eq_some_iff.1 h2).1
   refine ⟨h1, by omega, ?_⟩
   rw [List.getD_eq_getElem?_getD, List.getElem?_map, h2]
   exact h3
theorem whoE_at {L : List BEnt} {i : Int} {x : BEnt} (h : L[i.toNat]? = some x) : whoE L i = x.2 := by unfold whoE; rw [h]
/-! what entries that may be say -/
theorem new_may : ∀ {l L : List BEnt}, newE L l = 0 → ∀ x ∈ l, setB x.2 = true
 | [], L, _, x, hx => by cases hx
 | y :: l, L, h, x, hx => by
  unfold newE at h
  by_cases h0 : addE y L = 0
  · rw [if_pos h0] at h
    rcases List.mem_cons.1 hx with rfl | hx
    · exact (entB_iff.1 (addE_zero h0).1).2
    · exact new_may h x hx
  · rw [if_neg h0] at h; exact absurd h h0
section
variable {R : List BRul} {C : List BCert} {L : List BEnt} {op : Int} {c : List ByteArray} {b : Int}
theorem granted_make {d : DDec} {i : Nat} {x : BEnt} (G : Granted R C L op c b d i x) {w : ByteArray} (hw : w ∈ x.2) (hs : d.short = false) : ∃ s v, acceptE R C b = .ok s ∧ d.rules = s.rules ∧ c[toW d b c w]? = some v ∧ tellPE s.rules w v b = 0 ∧ makeE R C w (c.getD (toW d b c w) ⟨#[]⟩) b = (0, cutE R.length C (wholeM R C b s w v)) := by
 obtain ⟨k1, k2, k3⟩ := granted_to G hw
 obtain ⟨v, hv⟩ : ∃ v, c[toW d b c w]? = some v := ⟨_, List.getElem?_eq_getElem k1⟩
 have hl := k3 v hv
 have hg : c.getD (toW d b c w) ⟨#[]⟩ = v := by rw [List.getD_eq_getElem?_getD, hv]; rfl
 rcases G.way with ⟨q1, _⟩ | ⟨_, s, q2, q3, q4⟩
 · rw [hs] at q1; cases q1
 unfold leadL at hl
 rw [if_neg (by rw [hs]; decide)] at hl
 have hr := k2 hs
 rw [q3] at hl hr
 have ht : tellPE s.rules w v b = 0 := by
  have := (tellL_mem hr).1 hl
  unfold tellB at this
  rw [if_pos hr, decide_eq_true_iff] at this
  unfold tellPE
  rw [if_pos hr, if_pos this]
 exact ⟨s, v, q2, q3, hv, ht, by rw [hg]; exact makeE_yes q2 ht⟩
end
end Go.Proofs.YthdfplafihmejaaGreat

namespace Go.Proofs.YthdfplafihmejaaGreat
open Go.RowKit Go.Maps

section
variable {R : List BRul} {C : List BCert} {L : List BEnt} {op : Int} {c : List ByteArray} {b : Int}
def opOver (R : List BRul) (L : List BEnt) (op b : Int) : Bool := L.any fun x => decide (x.1 = op) && overB R b x.2
def truthB (R : List BRul) (L : List BEnt) (op : Int) (c : List ByteArray) (b : Int) : Bool := L.any fun x => decide (x.1 = op) && x.2.all (metB R b c)
theorem dec_ways (h : (decE R C L op c b).1 = 0) : (∃ e, acceptE R C b = .error e ∧ e = 12 ∧ (decE R C L op c b).2.ans ≠ 0) ∨ ∃ s, acceptE R C b = .ok s ∧ (opOver s.rules L op b = true → (decE R C L op c b).2.ans ≠ 0) ∧
  (opOver s.rules L op b = false → (truthB s.rules L op c b = true → (decE R C L op c b).2.ans = 1) ∧ (truthB s.rules L op c b = false → (decE R C L op c b).2.ans = 0)) := by
 obtain ⟨g1, g2, g3, e⟩ := decE_good h
 obtain ⟨l1, l2, l3⟩ := listB_iff.1 g1
 have hr := refE_ok l3 g3 (argB_iff.1 g2).2
 rw [e]
 unfold runD
 cases hacc : acceptE R C b with
 | error k =>
  refine .inl ⟨k, rfl, accept_err12 hacc hr, ?_⟩
  split
  · show (1 : Int) ≠ 0; decide
  · show (2 : Int) ≠ 0; decide
 | ok s =>
  refine .inr ⟨s, rfl, ?_⟩
  by_cases hs : shortI op c L < L.length
  · rw [if_pos hs]
    refine ⟨fun _ => by show (1 : Int) ≠ 0; decide, fun ho => ⟨fun _ => rfl, fun ht => ?_⟩⟩
    exfalso
    have hg := List.findIdx_getElem (xs := L) (p := shortP op c) (w := hs)
    have hm : L[shortI op c L] ∈ L := List.getElem_mem hs
    generalize hx : L[shortI op c L] = x at hm
    have hg : shortP op c x = true := by rw [← hx]; exact hg
    unfold shortP at hg
    rw [Bool.and_eq_true, decide_eq_true_iff] at hg
    have o1 := List.any_eq_false.1 ho x hm
    rw [decide_eq_true hg.1, Bool.true_and, Bool.not_eq_true] at o1
    have t1 := List.any_eq_false.1 ht x hm
    rw [decide_eq_true hg.1, Bool.true_and] at t1
    refine t1 (List.all_eq_true.2 fun w hw => ?_)
    have hrw : rowErr s.rules w b = 0 := by have := List.any_eq_false.1 o1 w hw; simpa using this
    unfold metB anyB
    have hc := List.all_eq_true.1 hg.2 w hw
    exact List.any_eq_true.2 ⟨w, (tellL_mem hrw).2 ((tellB_iff hrw).2 .refl), hc⟩
  · rw [if_neg hs]
    show (_ → (askGo s.rules b c op 0 0 L).1 ≠ 0) ∧ (_ → (_ → (askGo s.rules b c op 0 0 L).1 = 1) ∧ (_ → (askGo s.rules b c op 0 0 L).1 = 0))
    rw [askGo_val]
    refine ⟨fun ho => ?_, fun ho => ⟨fun ht => ?_, fun ht => ?_⟩⟩
    · obtain ⟨x, hx, q⟩ := List.any_eq_true.1 ho
      rw [Bool.and_eq_true, decide_eq_true_iff] at q
      split
      · decide
      · rw [if_pos (List.any_eq_true.2 ⟨x, hx, by unfold fitsB; rw [decide_eq_true q.1, fitV_val, if_pos q.2]; rfl⟩)]; decide
    · obtain ⟨x, hx, q⟩ := List.any_eq_true.1 ht
      rw [Bool.and_eq_true, decide_eq_true_iff] at q
      have o1 := List.any_eq_false.1 ho x hx
      rw [decide_eq_true q.1, Bool.true_and] at o1
      rw [if_pos (List.any_eq_true.2 ⟨x, hx, by unfold fitsB; rw [decide_eq_true q.1, fitV_val, if_neg o1, if_pos q.2]; rfl⟩)]
    · have key : ∀ x ∈ L, fitsB s.rules b c op 1 x = false ∧ fitsB s.rules b c op 2 x = false := by
       intro x hx
       have o1 := List.any_eq_false.1 ho x hx
       have t1 := List.any_eq_false.1 ht x hx
       unfold fitsB
       by_cases hop : x.1 = op
       · rw [decide_eq_true hop, Bool.true_and] at o1 t1
         rw [fitV_val, if_neg o1, if_neg t1]
         simp
       · rw [decide_eq_false hop]; simp
      rw [if_neg (by rw [Bool.not_eq_true]; exact List.any_eq_false.2 fun x hx => by rw [(key x hx).1]; decide), if_neg (by rw [Bool.not_eq_true]; exact List.any_eq_false.2 fun x hx => by rw [(key x hx).2]; decide)]
/-! a turn -/
def twiceC (C : List BCert) (t : Nat) : List BCert := turned C t ++ [C.getD (t % C.length) noC]
def backN (n t j : Nat) : Nat := if j < n then turnN n t j else t % n
end
end Go.Proofs.YthdfplafihmejaaGreat
