/-
  Proofs in plain Lean: the numbers of rules, what is needed, what is cut.
  Proofs in memory, and what the argument's reading says of one.
  What the arguments' readings say: proofs.
-/
import Derived.Test.YthdfplafihmejaaGreatSAt
import Derived.Test.YthdfplafihmejaaGreatRTell1
import Derived.Test.YthdfplafihmejaaGreatRHelp
namespace Go.Proofs.YthdfplafihmejaaGreat
open Go.RowKit Go.Maps

abbrev BSteps := List (Int × Int)
structure BItem where
 cert : Int
 paths : List BSteps
structure BProof where
 items : List BItem
 steps : BSteps
/-- How many rules a certificate has. -/
def frLen (C : List BCert) (k : Int) : Nat := match C[k.toNat]? with
 | some c => c.fr.length
 | none => 0
/-- How many rules the first k items have. -/
def tot (C : List BCert) (I : List BItem) (k : Nat) : Nat := ((I.take k).map fun x => frLen C x.cert).sum
theorem tot_zero (C : List BCert) (I : List BItem) : tot C I 0 = 0 := by simp [tot]
theorem tot_succ {C : List BCert} {I : List BItem} {k : Nat} {x : BItem} (h : I[k]? = some x) : tot C I (k + 1) = tot C I k + frLen C x.cert := by
 unfold tot
 rw [List.take_add_one, h]
 simp
theorem tot_le (C : List BCert) (I : List BItem) (k : Nat) : tot C I k ≤ tot C I (k + 1) := by
 cases h : I[k]? with
 | some x => rw [tot_succ h]; omega
 | none =>
  have := List.getElem?_eq_none_iff.1 h
  unfold tot
  rw [List.take_of_length_le this, List.take_of_length_le (by omega)]
  exact Nat.le_refl _
theorem tot_mono (C : List BCert) (I : List BItem) {i j : Nat} (h : i ≤ j) : tot C I i ≤ tot C I j := by
 induction h with
 | refl => exact Nat.le_refl _
 | step _ ih => exact Nat.le_trans ih (tot_le C I _)
theorem tot_bound {C : List BCert} {m : Nat} (hC : ∀ c ∈ C, c.fr.length ≤ m) (I : List BItem) (k : Nat) : tot C I k ≤ k * m := by
 induction k with
 | zero => rw [tot_zero]; omega
 | succ k ih =>
  cases h : I[k]? with
  | some x =>
   rw [tot_succ h, Nat.succ_mul]
   have : frLen C x.cert ≤ m := by
    unfold frLen
    split
    ·rename_i c hc
     exact hC c (List.mem_of_getElem? hc)
    ·exact Nat.zero_le _
   omega
  | none =>
   have h2 := List.getElem?_eq_none_iff.1 h
   have e : tot C I (k + 1) = tot C I k := by
    unfold tot
    rw [List.take_of_length_le h2, List.take_of_length_le (by omega)]
   rw [e, Nat.succ_mul]
   omega
/-- Do all steps use rules that stand ahead, so many behind the roots? -/
def standS (roots : Int) (n : Nat) (s : Int × Int) : Bool := decide (0 ≤ s.2) && decide (s.2 < roots + n)
def standB (roots : Int) (n : Nat) (l : BSteps) : Bool := l.all (standS roots n)
def itemB (roots : Int) (C : List BCert) (I : List BItem) (k : Nat) (x : BItem) : Bool := decide (0 ≤ x.cert) && (decide (x.cert < C.length) && x.paths.all (standB roots (tot C I k)))
/-- Where the items' rules begin, and at the end how many there are. -/
def beginsTo (C : List BCert) (I : List BItem) (k : Nat) : List Nat := (List.range k).map (tot C I)
theorem beginsTo_succ (C : List BCert) (I : List BItem) (k : Nat) : beginsTo C I (k + 1) = beginsTo C I k ++ [tot C I k] := by
 unfold beginsTo
 rw [List.range_succ, List.map_append]; rfl
theorem beginsTo_length (C : List BCert) (I : List BItem) (k : Nat) : (beginsTo C I k).length = k := by unfold beginsTo; simp
def begins (C : List BCert) (I : List BItem) : List Nat := beginsTo C I (I.length + 1)
theorem begins_length (C : List BCert) (I : List BItem) : (begins C I).length = I.length + 1 := beginsTo_length _ _ _
theorem begins_get {C : List BCert} {I : List BItem} {k : Nat} (h : k ≤ I.length) : (begins C I)[k]? = some (tot C I k) := by
 unfold begins beginsTo
 rw [List.getElem?_map, List.getElem?_range (by omega)]; rfl
/-- Can it be cut? -/
structure CutOk (roots : Int) (C : List BCert) (p : BProof) : Prop where
 root : 0 ≤ roots
 item : ∀ (k : Nat) x, p.items[k]? = some x → itemB roots C p.items k x = true
 last : standB roots (tot C p.items p.items.length) p.steps = true
/-- The item that a rule is of. -/
def own13 (roots : Int) (B : List Nat) (r : Int) : Option Nat := if r < roots then none else some (B.countP (fun b => decide (b ≤ (r - roots).toNat)) - 1)
def markS (roots : Int) (B : List Nat) (need : List Bool) (s : Int × Int) : List Bool := match own13 roots B s.2 with
 | some i => need.set i true
 | none => need
def markL (roots : Int) (B : List Nat) (need : List Bool) (l : BSteps) : List Bool := l.foldl (markS roots B) need
def markP (roots : Int) (B : List Nat) (need : List Bool) (ps : List BSteps) : List Bool := ps.foldl (markL roots B) need
/-- Item k is looked at. -/
def backS (roots : Int) (B : List Nat) (I : List BItem) (need : List Bool) (k : Nat) : List Bool := match need[k]? with
 | some true => (match I[k]? with
  | some x => markP roots B need x.paths
  | none => need)
 | _ => need
def backTo (roots : Int) (B : List Nat) (I : List BItem) : Nat → List Bool → List Bool
 | 0, need => need
 | k + 1, need => backTo roots B I k (backS roots B I need k)
def needB (roots : Int) (B : List Nat) (p : BProof) : List Bool := backTo roots B p.items p.items.length (markL roots B (List.replicate p.items.length false) p.steps)
theorem markS_length (roots : Int) (B : List Nat) (need : List Bool) (s : Int × Int) : (markS roots B need s).length = need.length := by
 unfold markS
 split
 ·exact List.length_set
 ·rfl
theorem markL_length (roots : Int) (B : List Nat) (l : BSteps) : ∀ need : List Bool, (markL roots B need l).length = need.length := by
 unfold markL
 induction l with
 | nil => intro need; rfl
 | cons s l ih => intro need; rw [List.foldl_cons, ih, markS_length]
theorem markP_length (roots : Int) (B : List Nat) (ps : List BSteps) : ∀ need : List Bool, (markP roots B need ps).length = need.length := by
 unfold markP
 induction ps with
 | nil => intro need; rfl
 | cons s l ih => intro need; rw [List.foldl_cons, ih, markL_length]
theorem backS_length (roots : Int) (B : List Nat) (I : List BItem) (need : List Bool) (k : Nat) : (backS roots B I need k).length = need.length := by
 unfold backS
 split
 ·split
  ·exact markP_length _ _ _ _
  ·rfl
 ·rfl
theorem backTo_length (roots : Int) (B : List Nat) (I : List BItem) : ∀ (k : Nat) (need : List Bool), (backTo roots B I k need).length = need.length
 | 0, need => rfl
 | k + 1, need => by unfold backTo; rw [backTo_length, backS_length]
theorem needB_length (roots : Int) (B : List Nat) (p : BProof) : (needB roots B p).length = p.items.length := by unfold needB; rw [backTo_length, markL_length, List.length_replicate]
/-- How many rules are gone ahead of item i. -/
def goneTo (C : List BCert) (I : List BItem) (need : List Bool) : Nat → Nat
 | 0 => 0
 | k + 1 => goneTo C I need k + (if need.getD k false then 0 else tot C I (k + 1) - tot C I k)
def anewS (roots : Int) (B : List Nat) (gone : Nat → Nat) (s : Int × Int) : Int × Int := match own13 roots B s.2 with
 | some i => (s.1, s.2 - gone i)
 | none => s
def anewL (roots : Int) (B : List Nat) (gone : Nat → Nat) (l : BSteps) : BSteps := l.map (anewS roots B gone)
def keepI (roots : Int) (B : List Nat) (gone : Nat → Nat) (need : List Bool) (I : List BItem) (i : Nat) : Option BItem := match I[i]? with
 | some x => if need.getD i false then some ⟨x.cert, x.paths.map (anewL roots B gone)⟩ else none
 | none => none
def keepTo (roots : Int) (B : List Nat) (gone : Nat → Nat) (need : List Bool) (I : List BItem) (k : Nat) : List BItem := (List.range k).filterMap (keepI roots B gone need I)
theorem keepTo_succ (roots : Int) (B : List Nat) (gone : Nat → Nat) (need : List Bool) (I : List BItem) (k : Nat) : keepTo roots B gone need I (k + 1) = keepTo roots B gone need I k ++ (keepI roots B gone need I k).toList := by
 unfold keepTo
 rw [List.range_succ, List.filterMap_append]
 cases h : keepI roots B gone need I k with
 | none => simp [h]
 | some x => simp [h]
theorem keepTo_length (roots : Int) (B : List Nat) (gone : Nat → Nat) (need : List Bool) (I : List BItem) (k : Nat) : (keepTo roots B gone need I k).length ≤ k := by
 unfold keepTo
 exact Nat.le_trans (List.length_filterMap_le _ _) (by rw [List.length_range]; exact Nat.le_refl _)
/-- What is left. -/
def cutE (roots : Int) (C : List BCert) (p : BProof) : BProof :=
 let B := begins C p.items
 let need := needB roots B p
 let gone := goneTo C p.items need
 ⟨keepTo roots B gone need p.items p.items.length, anewL roots B gone p.steps⟩
/-- A rule's item is one of the items. -/
theorem own13_lt {roots : Int} {C : List BCert} {I : List BItem} {s : Int × Int} {k i : Nat} (hs : standS roots (tot C I k) s = true) (hk : k ≤ I.length) (h : own13 roots (begins C I) s.2 = some i) : i < k ∧ 1 ≤ (begins C I).countP (fun b => decide (b ≤ (s.2 - roots).toNat)) := by
 unfold standS at hs
 rw [Bool.and_eq_true, decide_eq_true_eq, decide_eq_true_eq] at hs
 unfold own13 at h
 split at h
 ·cases h
 rename_i hr
 have hq : (s.2 - roots).toNat < tot C I k := by omega
 generalize (s.2 - roots).toNat = q at h hq ⊢
 have h1 : (begins C I).countP (fun b => decide (b ≤ q)) ≤ k := by
  have e : begins C I = beginsTo C I k ++ (List.range' k (I.length + 1 - k)).map (tot C I) := by
   unfold begins beginsTo
   rw [← List.map_append, List.range_eq_range', List.range_eq_range']
   congr 1
   have := @List.range'_append_1 0 k (I.length + 1 - k)
   rw [Nat.zero_add] at this
   rw [this]
   congr 1
   omega
  rw [e, List.countP_append]
  have z : ((List.range' k (I.length + 1 - k)).map (tot C I)).countP (fun b => decide (b ≤ q)) = 0 := by
   rw [List.countP_eq_zero]
   intro b hb
   obtain ⟨j, hj, rfl⟩ := List.mem_map.1 hb
   have := (List.mem_range'_1.1 hj).1
   have := tot_mono C I this
   simp
   omega
  rw [z, Nat.add_zero]
  refine Nat.le_trans List.countP_le_length ?_
  rw [beginsTo_length]
  exact Nat.le_refl _
 have h2 : 1 ≤ (begins C I).countP (fun b => decide (b ≤ q)) := by
  have : 0 < (begins C I).countP (fun b => decide (b ≤ q)) := by
   rw [List.countP_pos_iff]
   refine ⟨tot C I 0, ?_, ?_⟩
   ·exact List.mem_of_getElem? (begins_get (k := 0) (Nat.zero_le _))
   ·rw [tot_zero]; simp
  omega
 have e : (begins C I).countP (fun b => decide (b ≤ q)) - 1 = i := Option.some.inj h
 exact ⟨by omega, h2⟩
end Go.Proofs.YthdfplafihmejaaGreat

namespace Go.Proofs.YthdfplafihmejaaGreat
open Go.RowKit Go.Maps

/-- Steps, to be read; nil has no room. -/
structure StepsN (w : World) (v : Value) (G : Nat → Prop) (L : BSteps) : Prop where
 at_ : StepsAt w v G L
 nil : ∀ n c, v = .slice none n c → n = 0 ∧ c = 0
theorem StepsN.chg {S : Nat → Prop} {w w' : World} {v : Value} {G : Nat → Prop} {L : BSteps} (h : StepsN w v G L) (hc : Chg S w w') (hs : ∀ k, G k → ¬ S k) : StepsN w' v G L := ⟨h.at_.chg hc hs, h.nil⟩
theorem StepsAt.up13 {w : World} {v : Value} {G G' : Nat → Prop} {L : BSteps} (h : StepsAt w v G L) (hg : ∀ k, G k → G' k) : StepsAt w v G' L := by
 obtain ⟨la, cap, h1, h2, h3⟩ := h
 exact ⟨la, cap, h1, h2, fun j r hj => by obtain ⟨lb, lo, q1, q2, q3⟩ := h3 j r hj; exact ⟨lb, lo, q1, hg _ q2, q3⟩⟩
theorem StepsN.up {w : World} {v : Value} {G G' : Nat → Prop} {L : BSteps} (h : StepsN w v G L) (hg : ∀ k, G k → G' k) : StepsN w v G' L := ⟨h.at_.up13 hg, h.nil⟩
def PathsAt (w : World) (v : Value) (G : Nat → Prop) (P : List BSteps) : Prop :=
 ∃ la cap, v = .slice la P.length cap ∧ P.length ≤ maxLen ∧ ∀ (j : Nat) L, P[j]? = some L → ∃ lb lo sv, la = some ⟨lb, lo, none⟩ ∧ G lb ∧ w.cell? ⟨lb, lo + j, none⟩ = some sv ∧ StepsN w sv G L
theorem PathsAt.chg {S : Nat → Prop} {w w' : World} {v : Value} {G : Nat → Prop} {P : List BSteps} (h : PathsAt w v G P) (hc : Chg S w w') (hs : ∀ k, G k → ¬ S k) : PathsAt w' v G P := by
 obtain ⟨la, cap, h1, h2, h3⟩ := h
 exact ⟨la, cap, h1, h2, fun j L hj => by obtain ⟨lb, lo, sv, q1, q2, q3, q4⟩ := h3 j L hj; exact ⟨lb, lo, sv, q1, q2, cell_chg hc (hs lb q2) q3, q4.chg hc hs⟩⟩
theorem PathsAt.up {w : World} {v : Value} {G G' : Nat → Prop} {P : List BSteps} (h : PathsAt w v G P) (hg : ∀ k, G k → G' k) : PathsAt w v G' P := by
 obtain ⟨la, cap, h1, h2, h3⟩ := h
 exact ⟨la, cap, h1, h2, fun j L hj => by obtain ⟨lb, lo, sv, q1, q2, q3, q4⟩ := h3 j L hj; exact ⟨lb, lo, sv, q1, hg _ q2, q3, q4.up hg⟩⟩
def ItemsAt (w : World) (v : Value) (G : Nat → Prop) (I : List BItem) : Prop :=
 ∃ la cap, v = .slice la I.length cap ∧ I.length ≤ maxLen ∧ ∀ (j : Nat) x, I[j]? = some x → ∃ lb lo pv, la = some ⟨lb, lo, none⟩ ∧ G lb ∧ w.cell? ⟨lb, lo + j * 2, none⟩ = some (.int .i64 x.cert) ∧ w.cell? ⟨lb, lo + j * 2 + 1, none⟩ = some pv ∧ PathsAt w pv G x.paths
structure ProofAt (w : World) (iv sv : Value) (G : Nat → Prop) (p : BProof) : Prop where
 items : ItemsAt w iv G p.items
 steps : StepsN w sv G p.steps
theorem ItemsAt.chg {S : Nat → Prop} {w w' : World} {v : Value} {G : Nat → Prop} {I : List BItem} (h : ItemsAt w v G I) (hc : Chg S w w') (hs : ∀ k, G k → ¬ S k) : ItemsAt w' v G I := by
 obtain ⟨la, cap, h1, h2, h3⟩ := h
 exact ⟨la, cap, h1, h2, fun j x hj => by obtain ⟨lb, lo, pv, q1, q2, q3, q4, q5⟩ := h3 j x hj; exact ⟨lb, lo, pv, q1, q2, cell_chg hc (hs lb q2) q3, cell_chg hc (hs lb q2) q4, q5.chg hc hs⟩⟩
theorem ItemsAt.up {w : World} {v : Value} {G G' : Nat → Prop} {I : List BItem} (h : ItemsAt w v G I) (hg : ∀ k, G k → G' k) : ItemsAt w v G' I := by
 obtain ⟨la, cap, h1, h2, h3⟩ := h
 exact ⟨la, cap, h1, h2, fun j x hj => by obtain ⟨lb, lo, pv, q1, q2, q3, q4, q5⟩ := h3 j x hj; exact ⟨lb, lo, pv, q1, hg _ q2, q3, q4, q5.up hg⟩⟩
theorem ProofAt.chg {S : Nat → Prop} {w w' : World} {iv sv : Value} {G : Nat → Prop} {p : BProof} (h : ProofAt w iv sv G p) (hc : Chg S w w') (hs : ∀ k, G k → ¬ S k) : ProofAt w' iv sv G p := ⟨h.items.chg hc hs, h.steps.chg hc hs⟩
theorem ProofAt.up {w : World} {iv sv : Value} {G G' : Nat → Prop} {p : BProof} (h : ProofAt w iv sv G p) (hg : ∀ k, G k → G' k) : ProofAt w iv sv G' p := ⟨h.items.up hg, h.steps.up hg⟩
theorem ItemsAt.shape {w : World} {v : Value} {G : Nat → Prop} {I : List BItem} (h : ItemsAt w v G I) : ∃ a c, v = .slice a I.length c := by
 obtain ⟨la, cap, h1, _⟩ := h
 exact ⟨la, cap, h1⟩
theorem PathsAt.shape {w : World} {v : Value} {G : Nat → Prop} {P : List BSteps} (h : PathsAt w v G P) : ∃ a c, v = .slice a P.length c := by
 obtain ⟨la, cap, h1, _⟩ := h
 exact ⟨la, cap, h1⟩
theorem PathsAt.len {w : World} {v : Value} {G : Nat → Prop} {P : List BSteps} (h : PathsAt w v G P) : P.length ≤ 9223372036854775807 := by
 obtain ⟨_, _, _, h1, _⟩ := h
 unfold maxLen at h1
 omega
theorem StepsN.shape {w : World} {v : Value} {G : Nat → Prop} {L : BSteps} (h : StepsN w v G L) : ∃ a c, v = .slice a L.length c := by
 obtain ⟨la, cap, h1, _⟩ := h.at_
 exact ⟨la, cap, h1⟩
end Go.Proofs.YthdfplafihmejaaGreat

namespace Go.Proofs.YthdfplafihmejaaGreat
open Go.ChangeShapes Go.WideShapes Go.ChangeAt Go.RowKit

def Fit64 (x : Int) : Prop := -9223372036854775808 ≤ x ∧ x ≤ 9223372036854775807
def StepsFit (l : BSteps) : Prop := ∀ s ∈ l, Fit64 s.1 ∧ Fit64 s.2
structure ProofFit (p : BProof) : Prop where
 items : ∀ x ∈ p.items, Fit64 x.cert ∧ ∀ l ∈ x.paths, StepsFit l
 steps : StepsFit p.steps
theorem Tryz.cellsItem : Tryz.prog.cellsOf 98 = 2 := by kernel_rfl
theorem Tryz.cellsSteps : Tryz.prog.cellsOf 81 = 1 := by kernel_rfl
theorem Tryz.cellsPaths : Tryz.prog.cellsOf 96 = 1 := by kernel_rfl
theorem Tryz.cellsItems : Tryz.prog.cellsOf 80 = 1 := by kernel_rfl
theorem Tryz.cellsProof : Tryz.prog.cellsOf 83 = 2 := by kernel_rfl
section
variable {W : World} {H : Type} {enc : TypeId × Value → H}
instance : Inhabited BItem := ⟨⟨0, []⟩⟩
end
end Go.Proofs.YthdfplafihmejaaGreat
