/-
  The reference's Sub, Swap, Counts, Use; its row, Place.
  The reference's Find.
  The reference's All.
  What the arguments' readings say, in the words of the walks: rules, steps.
  Reach: what the laws of many layers lean on.
  What reach.Leads tells, in plain Lean.
  word.Find.
-/
import Derived.Test.YthdfplafihmejaaGreatRBase
import Derived.Test.YthdfplafihmejaaGreatMRefs
import Derived.Test.YthdfplafihmejaaGreatKit2
import Derived.Test.YthdfplafihmejaaGreatRRow
import Derived.Test.YthdfplafihmejaaGreatRTell1
import Derived.Lib.SmallJoins
import Derived.SizedLaws
namespace Go.Proofs.YthdfplafihmejaaGreat

end Go.Proofs.YthdfplafihmejaaGreat

namespace Go.Proofs.YthdfplafihmejaaGreat
open Go.RowKit Go.Maps

def SubOk (s : ByteArray) (a : Int) (n : Nat) : Prop := 0 ≤ a ∧ a + n ≤ alen s.data.toList
instance (s : ByteArray) (a : Int) (n : Nat) : Decidable (SubOk s a n) := by unfold SubOk; infer_instance
def subV (s : ByteArray) (a : Int) (n : Nat) : Value := if SubOk s a n then .tuple #[.string (bar ((s.data.toList.drop (2 * a.toNat)).take (2 * n))), .int .i64 0] else .tuple #[.string ⟨#[]⟩, .int .i64 5]
end Go.Proofs.YthdfplafihmejaaGreat

namespace Go.Proofs.YthdfplafihmejaaGreat
open Go.RowKit Go.Maps

/-- What Use hands back. -/
def useV (o : Option Wd) : Value := match o with
 | none => .tuple #[.string ⟨#[]⟩, .bool false]
 | some u => .tuple #[.string (bar u), .bool true]
/-- Rules, no string of them too long to be. -/
def Fit47 (R : List BRul) : Prop := ∀ r ∈ R, r.1.size ≤ 140737488355328 ∧ r.2.size ≤ 140737488355328
end Go.Proofs.YthdfplafihmejaaGreat

namespace Go.Proofs.YthdfplafihmejaaGreat

def hereUp (l : List Wd) (w : Wd) (a i : Nat) : List Nat := (List.range i).filter fun t => standsB (l.getD t []) w a
/-- The steps ahead of a place and a rule. -/
def stepsPre (R : List Rul) (u : Wd) (a k : Nat) : List ((Nat × Nat) × Wd) := (hitsTo (froms R) u a ++ (hereUp (froms R) u a k).map fun t => (a, t)).map fun h => (h, useAt R u h)
/-- What the steps ahead of a place and a rule make of a row. -/
def rowPre (R : List Rul) (b i : Nat) (r : List Ent) (u : Wd) (a k : Nat) : Option (List Ent) := innerR b i (stepsPre R u a k) r
end Go.Proofs.YthdfplafihmejaaGreat

namespace Go.Proofs.YthdfplafihmejaaGreat
open Go.RowKit Go.Maps

def rfCells (r : List Ent) : List Value := r.map fun e => .int .i64 e.2.1
def rsCells (r : List Ent) : List Value := hcells (r.map fun e => e.2.2)
structure FRow (w : World) (base b : Nat) (lv fv bv : Value) (r1 r2 r3 : List Ent) : Prop where
 hb : w.heap[b]? = some (.cells #[lv, fv, bv] 111 (0, 0))
 hl : w.ownsRow base 57 1 lv r1.length (rwCells r1)
 hf : w.ownsRow base 3 1 fv r2.length (rfCells r2)
 hs : w.ownsRow base 153 2 bv r3.length (rsCells r3)
 bb : base ≤ b
theorem own_ty {w : World} {base : Nat} {e t : TypeId} {size n k : Nat} {xs : List Value} {v : Value} {cs : Array Value} {fz : Nat × Nat} (h : w.ownsRow base e size v n xs) (hk : v.ownBlock = some k) (ho : w.heap[k]? = some (.cells cs t fz)) : t = e := by
 obtain ⟨cs', h'⟩ := own_cells h hk
 rw [ho] at h'
 cases h'
 rfl
section
variable {w w' : World} {base b : Nat} {lv fv bv v : Value} {r1 r2 r3 : List Ent}
end
/-- The reference's row, whole. -/
def RowF (w : World) (base b : Nat) (r : List Ent) : Prop := ∃ lv fv bv, FRow w base b lv fv bv r r r
def placeI (r : List Ent) (u : Wd) : Int := if u ∈ wordsR r then ((wordsR r).idxOf u : Nat) else -1
end Go.Proofs.YthdfplafihmejaaGreat

namespace Go.Proofs.YthdfplafihmejaaGreat
open Go.RowKit Go.Maps

def FindBad (w : World) (k : Int) (e : Ending) (w' : World) : Prop := e = .returned (.tuple #[.pointer none, .int .i64 k]) ∧ Chg (fun _ => False) w w'
def FindGood (w : World) (r : List Ent) (e : Ending) (w' : World) : Prop := ∃ b, e = .returned (.tuple #[.pointer (some ⟨b, 0, none⟩), .int .i64 0]) ∧ RowF w' w.heap.size b r ∧ Chg (fun _ => False) w w'
def FindRes (w : World) (o : Option (List Ent)) (e : Ending) (w' : World) : Prop := (∀ r, o = some r → FindGood w r e w') ∧ (o = none → FindBad w 12 e w')
/-- What holds of Find's outer loop. -/
structure FOut (w : World) (R : List Rul) (s : Wd) (bnd b i : Nat) (r : List Ent) (W : World) : Prop where
 row : RowF W w.heap.size b r
 goes : rowOf R s bnd = outerR R bnd (bnd - i) i r
 le : i ≤ bnd
 len : r.length ≤ bnd
 nd : (wordsR r).Nodup
 may : ∀ u ∈ wordsR r, mayB u = true
 chg : Chg (fun _ => False) w W
/-- What holds inside. -/
structure FIn (w : World) (R : List Rul) (bnd b i : Nat) (r0 : List Ent) (a k : Nat) (r : List Ent) (W : World) : Prop where
 row : RowF W w.heap.size b r
 pre : rowPre R bnd i r0 (wordAt r0 i) a k = some r
 chg : Chg (fun _ => False) w W
theorem Tryz.sizeSteps : (Tryz.prog.info? 81).map (·.size) = some 1 := by kernel_rfl
end Go.Proofs.YthdfplafihmejaaGreat

namespace Go.Proofs.YthdfplafihmejaaGreat
open Go.RowKit Go.Maps

section
variable {w : World} {v : Value} {R : List BRul} {s : ByteArray} {b : Int}
end
end Go.Proofs.YthdfplafihmejaaGreat

namespace Go.Proofs.YthdfplafihmejaaGreat
end Go.Proofs.YthdfplafihmejaaGreat

namespace Go.Proofs.YthdfplafihmejaaGreat
open Go.RowKit Go.Maps
theorem of_one (w : World) (k : Nat) (z : Int) (hz : z = k) (x : ByteArray) (hk : k < 65536) (hx : (⟨(ofAtoms [k]).toArray⟩ : ByteArray) = x) : Calls Tryz.prog 30 #[.slice (some ⟨w.heap.size, 0, none⟩) 1 1] (w.alloc (.cells #[.int .u16 z] 62)) fun e w' => e = .returned (.string x) ∧ Chg (fun _ => False) w w' := by
 subst hz
 have e1 : (w.alloc (.cells #[.int .u16 (k : Int)] 62)).cell? ⟨w.heap.size, 0, none⟩ = some (.int .u16 (k : Int)) := cell_of (obj_alloc_new _ _) rfl
 have := rof_any (w.alloc (.cells #[.int .u16 (k : Int)] 62)) (some ⟨w.heap.size, 0, none⟩) 1 [k] (by simp) (by simp) (fun j x hj => by
  rcases j with _ | j
  ·simp at hj; subst hj; exact ⟨hk, _, _, rfl, e1⟩
  ·simp at hj)
 rw [hx] at this
 exact this.mono fun e w' ⟨he, hc⟩ => ⟨he, (chg_alloc _ w _).trans hc⟩
end Go.Proofs.YthdfplafihmejaaGreat

namespace Go.Proofs.YthdfplafihmejaaGreat
open Go.ChangeShapes Go.WideShapes Go.ChangeAt Go.RowKit

/-- Rules that came in. -/
structure RulesArg (w : World) (v : Value) (R : List BRul) : Prop where
 at_ : RulesAt w v (· < w.heap.size) R
 nil : ∀ n c, v = .slice none n c → n = 0 ∧ c = 0
def RulesFit (R : List BRul) : Prop := Fit47 R ∧ R.length * 32 ≤ 140737488355328
/-- Steps that came in. -/
structure StepsArg (w : World) (v : Value) (L : List (Int × Int)) : Prop where
 at_ : StepsAt w v (· < w.heap.size) L
 fit : ∀ x ∈ L, -9223372036854775808 ≤ x.1 ∧ x.1 ≤ 9223372036854775807
theorem weightsAll_mem {H : Type} {P : Program} {e : TypeId} : ∀ {l : List (DataW H)} {d : DataW H}, d ∈ l → ∀ n ∈ d.weights P e, n ∈ DataW.weightsAll P e l
 | a :: l, d, h, n, hn => by
  simp only [DataW.weightsAll, List.mem_append]
  rcases List.mem_cons.1 h with rfl | h
  ·exact .inl hn
  ·exact .inr (weightsAll_mem h n hn)
theorem trod_two {P : Program} {W : World} {H : Type} {enc : TypeId × Value → H} {t : TypeId} {f0 f1 : Field} {fuel : Nat} {cs : List Value} {x : DataW H × List MemPlace} {base : Nat} {spare : Nat → Bool} {held : Bool} (ht : P.underlying t = some (.struct #[f0, f1])) (h : DataW.trod enc P W base spare held fuel t cs = some x) :
  ∃ y0 y1 n, x.1 = .agg [y0.1, y1.1] ∧ cs.length = P.cellsOf t ∧ DataW.trod enc P W base spare held n f0.type ((cs.drop f0.offset).take (P.cellsOf f0.type)) = some y0 ∧ DataW.trod enc P W base spare held n f1.type ((cs.drop f1.offset).take (P.cellsOf f1.type)) = some y1 := by
 obtain ⟨xs, n, _, rfl, hl, hlen, hf⟩ := DataW.trod_struct ht h
 match xs, hlen with
 | [y0, y1], _ => exact ⟨y0, y1, n, rfl, hl, by simpa using hf 0 f0 rfl, by simpa using hf 1 f1 rfl⟩
theorem Tryz.cellsInt : Tryz.prog.cellsOf 3 = 1 := by kernel_rfl
theorem Tryz.cellsWord : Tryz.prog.cellsOf 57 = 1 := by kernel_rfl
theorem Tryz.cellsRule : Tryz.prog.cellsOf 66 = 2 := by kernel_rfl
theorem Tryz.cellsStep : Tryz.prog.cellsOf 153 = 2 := by kernel_rfl
theorem Tryz.bytesRule : Tryz.prog.bytesOf 66 = 32 := by kernel_rfl
set_option maxRecDepth 100000 in
theorem rule_of {W : World} {H : Type} {enc : TypeId × Value → H} {fuel : Nat} {cs : List Value} {x : DataW H × List MemPlace} (h : DataW.trod enc Tryz.prog W 0 (fun _ => true) true fuel 66 cs = some x) :
  ∃ r : BRul, cs = [.string r.1, .string r.2] ∧ r.1.size ≤ maxLen ∧ r.2.size ≤ maxLen ∧ x.1 = .agg [.lit (.string r.1.data.toList), .lit (.string r.2.data.toList)] := by
 obtain ⟨y0, y1, n, e, hl, t0, t1⟩ := trod_two Tryz.underlying66 h
 rw [Tryz.cellsRule] at hl
 match cs, hl with
 | [c0, c1], _ =>
  simp only [Tryz.cellsWord, List.drop_zero, List.drop_succ_cons, List.take_succ_cons, List.take_zero] at t0 t1
  obtain ⟨s, e0, f0, hs⟩ := DataW.trod_string Tryz.underlying57 t0
  obtain ⟨u, e1, f1, hu⟩ := DataW.trod_string Tryz.underlying57 t1
  simp at e0 e1
  subst e0 e1 f0 f1
  exact ⟨(s, u), rfl, hs, hu, e⟩
theorem rulesArg_of {W : World} {H : Type} {enc : TypeId × Value → H} {a : Option Addr} {n c : Nat} {d : DataW H} {ps : List MemPlace}
  (h : DataW.Trod enc Tryz.prog W 0 (fun _ => true) true 22 (.slice a n c) d ps) : ∃ l, RulesArg W (.slice a n c) l ∧ ((∀ x ∈ d.weights Tryz.prog 22, x ≤ reachBytes) → RulesFit l) := by
 obtain ⟨fuel, hf⟩ := h
 have hf' : DataW.trod enc Tryz.prog W 0 (fun _ => true) true fuel 22 [.slice a n c] = some (d, ps) := hf
 rcases Deep.open_slice Tryz.underlying22 hf' with ⟨hcs, _⟩ | ⟨x, len, cap, m, k, D, Pl, hcs, _, hl, hm, hmm, hd, hel⟩
 ·simp at hcs
  obtain ⟨rfl, rfl, rfl⟩ := hcs
  exact ⟨[], ⟨⟨none, 0, rfl, by simp, fun j x hj => by simp at hj⟩, fun n c e => by cases e; exact ⟨rfl, rfl⟩⟩, fun _ => ⟨(fun r hr => by cases hr), by simp⟩⟩
 ·simp at hcs
  obtain ⟨rfl, rfl, rfl⟩ := hcs
  simp at hmm
  obtain rfl : c = m := hmm.symm
  rw [Tryz.cellsRule] at hel
  have hv : ∀ i, i < c → ∃ v : BRul, W.cells? 0 (x.add (i * 2)) 2 = some [.string v.1, .string v.2] ∧ v.1.size ≤ maxLen ∧ v.2.size ≤ maxLen ∧ D i = .agg [.lit (.string v.1.data.toList), .lit (.string v.2.data.toList)] := by
   intro i hi
   obtain ⟨cs, h1, h2⟩ := hel i hi
   obtain ⟨v, rfl, q⟩ := rule_of h2
   exact ⟨v, h1, q⟩
  have : Inhabited BRul := ⟨(ByteArray.empty, ByteArray.empty)⟩
  obtain ⟨f, hf2⟩ := Deep.choose_lt hv
  have key : ∀ (j : Nat) y, ((List.range n).map f)[j]? = some y → j < n ∧ y = f j := fun j y hj => by
   rw [List.getElem?_map] at hj
   have hjn : j < n := by
    rcases Nat.lt_or_ge j n with h | h
    ·exact h
    ·rw [List.getElem?_eq_none (by simpa using h)] at hj; simp at hj
   rw [List.getElem?_range hjn] at hj
   simp at hj
   exact ⟨hjn, hj.symm⟩
  refine ⟨(List.range n).map f, ⟨⟨some x, c, by simp, by simp; omega, fun j y hj => ?_⟩, fun n c e => by cases e⟩, fun hw => ?_⟩
  ·obtain ⟨hjn, rfl⟩ := key j y hj
   obtain ⟨h1, h2, h3, _⟩ := hf2 j (by omega)
   have g := (World.cells?_some h1).2.2
   have g0 := (World.cells?_some (hf2 0 (by omega)).1).2.2 0 (by decide)
   obtain ⟨b, off, spot⟩ := x
   have hs : spot = none := by simpa [Addr.add] using World.cell?_spot g0
   subst hs
   simp only [addr_add] at g
   have c0 := g 0 (by decide)
   have c1 := g 1 (by decide)
   exact ⟨b, off, rfl, World.block_lt_of_cell? W _ c0, c0, c1, h2, h3⟩
  ·have hd2 : d = .slice ((List.range n).map D) ((List.range (c - n)).map fun j => D (n + j)) := congrArg Prod.fst hd
   subst hd2
   simp only [DataW.weights, Tryz.underlying22, List.mem_cons, List.mem_append] at hw
   have hr := reachBytes_lt
   refine ⟨fun r hr => ?_, ?_⟩
   ·obtain ⟨j, hj⟩ := List.mem_iff_getElem?.1 hr
    obtain ⟨hjn, rfl⟩ := key j r hj
    obtain ⟨_, _, _, hD⟩ := hf2 j (by omega)
    have hm : D j ∈ (List.range n).map D := List.mem_map.2 ⟨j, List.mem_range.2 hjn, rfl⟩
    have hw2 := fun x hx => hw x (.inr (.inl (weightsAll_mem hm x hx)))
    rw [hD] at hw2
    simp only [DataW.weights, Tryz.underlying66] at hw2
    have q1 := hw2 (f j).1.data.toList.length (by simp [DataW.weightsEach, DataW.weights])
    have q2 := hw2 (f j).2.data.toList.length (by simp [DataW.weightsEach, DataW.weights])
    rw [size_list] at q1 q2
    omega
   ·have := hw _ (.inl rfl)
    rw [Tryz.bytesRule] at this
    simp at this ⊢
    have h2 : n * 32 ≤ (n + (c - n)) * 32 := Nat.mul_le_mul_right _ (by omega)
    omega
end Go.Proofs.YthdfplafihmejaaGreat

namespace Go.Proofs.YthdfplafihmejaaGreat
open Go.RowKit Go.Maps
theorem rw_words (r : List Ent) : rwCells r = wcells ((wordsR r).map bar) := by unfold rwCells wcells wordsR; rw [List.map_map, List.map_map]; rfl
theorem wordsR_get {r : List Ent} {k : Nat} (hk : k < r.length) : (wordsR r)[k]? = some (wordAt r k) := by
 unfold wordsR wordAt
 rw [List.getElem?_map, List.getD_eq_getElem?_getD, List.getElem?_eq_getElem hk]; rfl
theorem wordAt_idx {r : List Ent} {t : Wd} (h : t ∈ wordsR r) : (wordsR r).idxOf t < r.length ∧ wordAt r ((wordsR r).idxOf t) = t := by
 have hl : (wordsR r).idxOf t < (wordsR r).length := List.idxOf_lt_length_of_mem h
 refine ⟨by rw [← wordsR_length]; exact hl, ?_⟩
 have h1 := wordsR_get (r := r) (k := (wordsR r).idxOf t) (by rw [← wordsR_length]; exact hl)
 rw [List.getElem?_eq_getElem hl, List.getElem_idxOf hl] at h1
 exact (Option.some.inj h1).symm
theorem wlen_of {u : Wd} (h : mayB u = true) : (bar u).size ≤ 16 := (may_size (a := bar u) (by rw [bar_list]; exact h)).1
/-! what reach tells, in one word each -/
def rowD (R : List BRul) (s : ByteArray) (b : Int) : List Ent := (rowB R s b).getD []
def tellL (R : List BRul) (s : ByteArray) (b : Int) : List ByteArray := if rowErr R s b = 0 then (wordsR (rowD R s b)).map bar else []
def TellAll (w : World) (k : Int) (L : List ByteArray) (e : Ending) (w' : World) : Prop := ∃ va, e = .returned (.tuple #[va, .int .i64 k]) ∧ WordsAt w' va (fun x => w.heap.size ≤ x ∧ x < w'.heap.size) L ∧ Chg (fun _ => False) w w'
theorem wordsAt_nil (w : World) (G : Nat → Prop) : WordsAt w (.slice none 0 0) G [] := ⟨none, 0, rfl, by simp, fun j x hj => by simp at hj⟩
theorem wordsAt_row {w : World} {base : Nat} {v : Value} {r : List Ent} (h : w.ownsRow base 57 1 v r.length (rwCells r)) (hs : ∀ u ∈ wordsR r, (bar u).size ≤ 400) : WordsAt w v (fun x => base ≤ x ∧ x < w.heap.size) ((wordsR r).map bar) := by
 have h2 : w.ownsRow base 57 1 v ((wordsR r).map bar).length (wcells ((wordsR r).map bar)) := by rw [List.length_map, wordsR_length, ← rw_words]; exact h
 obtain ⟨a, cap, rfl, h3, h4⟩ := own_get h2
 refine ⟨a, cap, rfl, h3, fun j x hj => ?_⟩
 obtain ⟨g, rfl, hg, c⟩ := h4 j (.string x) (by unfold wcells; rw [List.getElem?_map, hj]; rfl)
 refine ⟨g, 0, rfl, ⟨hg, World.block_lt_of_cell? w _ c⟩, by rw [Nat.zero_add]; exact c, ?_⟩
 have hx := List.mem_of_getElem? hj
 rw [List.mem_map] at hx
 obtain ⟨u, hu, rfl⟩ := hx
 have := hs u hu
 unfold maxLen; omega
theorem row_sizes {R : List BRul} {s : ByteArray} {b : Int} {r : List Ent} (h : rowErr R s b = 0) (hr : rowB R s b = some r) : (∀ u ∈ wordsR r, mayB u = true ∧ (bar u).size ≤ 16) ∧ r.length ≤ 5000 ∧ 1 ≤ b := by
 obtain ⟨hask, _⟩ := rowErr_zero h
 obtain ⟨m1, m2, m3, m4⟩ := askErr_zero hask
 obtain ⟨s1, s2, s3⟩ := row_some (by omega) hr
 exact ⟨fun u hu => ⟨(reach_may m1 ((s3 u).1 hu)).1, wlen_of (reach_may m1 ((s3 u).1 hu)).1⟩, by omega, m2⟩
section
variable {w : World} {v : Value} {R : List BRul} {s : ByteArray} {b : Int}
theorem all_tells (hA : Asks w v R s) : Calls Tryz.prog 121 #[v, .string s, .int .i64 b] w (TellAll w (rowErr R s b) (tellL R s b)) := by
 by_cases h : rowErr R s b = 0
 ·obtain ⟨_, r, hr⟩ := rowErr_zero h
  refine (all_ok hA h hr).mono fun e w' ⟨va, he, ho, hc⟩ => ⟨va, by rw [h]; exact he, ?_, hc⟩
  unfold tellL rowD
  rw [if_pos h, hr]
  exact wordsAt_row ho (fun u hu => by have := ((row_sizes h hr).1 u hu).2; omega)
 ·refine (all_err hA rfl h).mono fun e w' ⟨he, hc⟩ => ⟨_, he, ?_, hc⟩
  unfold tellL
  rw [if_neg h]
  exact wordsAt_nil _ _
end
theorem WordsAt.imp {w : World} {v : Value} {G G' : Nat → Prop} {l : List ByteArray} (h : WordsAt w v G l) (hg : ∀ k, G k → G' k) : WordsAt w v G' l := by
 obtain ⟨la, cap, h1, h2, h3⟩ := h
 exact ⟨la, cap, h1, h2, fun j r hj => by obtain ⟨lb, lo, q1, q2, q3⟩ := h3 j r hj; exact ⟨lb, lo, q1, hg _ q2, q3⟩⟩
def ruleCells (L : List BRul) : List Value := L.flatMap fun r => [.string r.1, .string r.2]
theorem ruleCells_length (L : List BRul) : (ruleCells L).length = L.length * 2 := by
 unfold ruleCells
 induction L with
 | nil => rfl
 | cons a t ih => rw [List.flatMap_cons, List.length_append, ih]; simp; omega
theorem ruleCells_append (L M : List BRul) : ruleCells (L ++ M) = ruleCells L ++ ruleCells M := by unfold ruleCells; rw [List.flatMap_append]
theorem ruleCells_one (L : List BRul) : ∀ v ∈ ruleCells L, v.oneCell' = true := by
 intro v hv
 unfold ruleCells at hv
 rw [List.mem_flatMap] at hv
 obtain ⟨r, _, h⟩ := hv
 simp at h
 rcases h with rfl | rfl <;> rfl
theorem ruleCells_get : ∀ (L : List BRul) (k : Nat) r, L[k]? = some r → (ruleCells L)[k * 2]? = some (.string r.1) ∧ (ruleCells L)[k * 2 + 1]? = some (.string r.2)
 | [], k, r, h => by simp at h
 | a :: t, 0, r, h => by
  simp at h
  subst h
  unfold ruleCells
  rw [List.flatMap_cons]
  exact ⟨rfl, rfl⟩
 | a :: t, k + 1, r, h => by
  obtain ⟨h1, h2⟩ := ruleCells_get t k r (by simpa using h)
  have e : ruleCells (a :: t) = [.string a.1, .string a.2] ++ ruleCells t := by unfold ruleCells; rw [List.flatMap_cons]
  rw [e]
  refine ⟨?_, ?_⟩
  ·rw [List.getElem?_append_right (by simp; omega)]; simpa [show (k + 1) * 2 - 2 = k * 2 by omega] using h1
  ·rw [List.getElem?_append_right (by simp; omega)]; simpa [show (k + 1) * 2 + 1 - 2 = k * 2 + 1 by omega] using h2
theorem ruleCells_at {L : List BRul} {j : Nat} {u : Value} (h : (ruleCells L)[j]? = some u) : ∃ k r, L[k]? = some r ∧ (j = k * 2 ∧ u = .string r.1 ∨ j = k * 2 + 1 ∧ u = .string r.2) := by
 have hl := (List.getElem?_eq_some_iff.1 h).1
 rw [ruleCells_length] at hl
 have hk : j / 2 < L.length := by omega
 refine ⟨j / 2, L[j / 2], List.getElem?_eq_getElem hk, ?_⟩
 obtain ⟨h1, h2⟩ := ruleCells_get L (j / 2) _ (List.getElem?_eq_getElem hk)
 rcases Nat.mod_two_eq_zero_or_one j with q | q
 ·rw [show j / 2 * 2 = j by omega, h] at h1
  exact .inl ⟨by omega, Option.some.inj h1⟩
 ·rw [show j / 2 * 2 + 1 = j by omega, h] at h2
  exact .inr ⟨by omega, Option.some.inj h2⟩
theorem rulesAt_own {w : World} {base : Nat} {v : Value} {L : List BRul} (h : w.ownsRow base 66 2 v L.length (ruleCells L)) (hs : ∀ r ∈ L, r.1.size ≤ maxLen ∧ r.2.size ≤ maxLen) : RulesAt w v (· < w.heap.size) L := by
 have h0 := h
 obtain ⟨h1, ⟨rfl, h2⟩ | ⟨g, cap, cur, rfl, hg, hh, q1, q2, q3, q4⟩⟩ := h
 ·refine ⟨none, 0, by rw [h2], by rw [h2]; unfold maxLen; omega, fun j x hj => ?_⟩
  have : j < L.length := (List.getElem?_eq_some_iff.1 hj).1
  omega
 ·refine ⟨_, cap, rfl, by omega, fun j x hj => ?_⟩
  have hj' : j < L.length := (List.getElem?_eq_some_iff.1 hj).1
  obtain ⟨c1, c2⟩ := ruleCells_get L j x hj
  obtain ⟨z1, z2⟩ := hs x (List.mem_of_getElem? hj)
  refine ⟨g, 0, rfl, lt_of_obj hh, ?_, ?_, z1, z2⟩
  ·rw [Nat.zero_add, h0.cellAt (j := j * 2) (by omega)]; exact c1
  ·rw [Nat.zero_add, h0.cellAt (j := j * 2 + 1) (by omega)]; exact c2
theorem rules_src {w : World} {la : Option Addr} {n cap : Nat} {G : Nat → Prop} {R : List BRul} (h : RulesAt w (.slice la n cap) G R) : ∀ (j : Nat) u, (ruleCells R)[j]? = some u → ∃ g o, la = some ⟨g, o, none⟩ ∧ w.cell? ⟨g, o + j, none⟩ = some u := by
 obtain ⟨la', cap', e, _, hc⟩ := h
 cases e
 intro j u hj
 obtain ⟨k, r, hk, q⟩ := ruleCells_at hj
 obtain ⟨lb, lo, e1, _, c0, c1, _⟩ := hc k r hk
 refine ⟨lb, lo, e1, ?_⟩
 rcases q with ⟨rfl, rfl⟩ | ⟨rfl, rfl⟩
 ·exact c0
 ·rw [← Nat.add_assoc]; exact c1
theorem Tryz.elemRule : ElemInfo Tryz.prog 66 2 32 := elemInfo_of (z := .agg #[.string ⟨#[]⟩, .string ⟨#[]⟩]) (by kernel_rfl) rfl (by decide)
def Small (R : List BRul) : Prop := R.length ≤ 30 ∧ ∀ r ∈ R, r.1.size ≤ 100 ∧ r.2.size ≤ 100
open Classical in
/-- A set of words, as a map. -/
noncomputable def wsetF (S : Wd → Prop) : Lit → Option (DataW Unit) := fun kl => if ∃ u, S u ∧ kl = .string u then some (.lit (.bool true)) else none
end Go.Proofs.YthdfplafihmejaaGreat

namespace Go.Proofs.YthdfplafihmejaaGreat
def tellB (R : List BRul) (s t : ByteArray) (b : Int) : Bool := if rowErr R s b = 0 then decide (t.data.toList ∈ wordsR (rowD R s b)) else false
end Go.Proofs.YthdfplafihmejaaGreat

namespace Go.Proofs.YthdfplafihmejaaGreat
open Go.RowKit
set_option maxRecDepth 100000 in
theorem find_any (w : World) (s v : ByteArray) (i : Nat) (hs : s.size ≤ 1000000) (hv : v.size ≤ 1000000) (hv2 : v.size % 2 = 0) (hv0 : 0 < v.size) (hi : i ≤ 1000000) :
  Calls Tryz.prog 129 #[.string s, .string v, .int .i64 i] w fun e w' => e = .returned (.int .i64 (findI s.data.toList v.data.toList i)) ∧ w = w' := by
 have O1 := Lib.hid (wodd_no w v (by unfold maxLen; omega) hv2)
 have L1 := Lib.hid (wlen_any w s (by unfold maxLen; omega))
 have L2 := Lib.hid (wlen_any w v (by unfold maxLen; omega))
 have hN : 2 * alen s.data.toList ≤ s.size ∧ s.size ≤ 2 * alen s.data.toList + 1 := by unfold alen; rw [size_list]; omega
 have hM : v.size ≤ 2 * alen v.data.toList ∧ 2 * alen v.data.toList ≤ v.size := by unfold alen; rw [size_list]; omega
 have NO := Lib.hid (fun k => @findI_no s.data.toList v.data.toList k)
 have HIT := Lib.hid (fun k => @findI_hit s.data.toList v.data.toList k)
 have NXT := Lib.hid (fun k => @findI_next s.data.toList v.data.toList k)
 have CUT := Lib.hid (fun k => cut_list s v k)
 generalize alen s.data.toList = N at *
 generalize alen v.data.toList = M at *
 have g1 : ((M : Int) == 0) = false := by rw [beq_eq_false_iff_ne]; omega
 have g2 : max (i : Int) 0 = (i : Int) := by omega
 go_enter Tryz.func129, Tryz.ntmps129
 go_wp2_with fail
 refine (O1.out).mono ?_
 rintro e w' ⟨rfl, rfl⟩
 go_wp2_with fail
 refine (L2.out).mono ?_
 rintro e w' ⟨rfl, rfl⟩
 go_wp2
 go_loop [7] (fun iv => ∃ k : Nat, k ≤ i + N + 1 ∧ iv = .int .i64 k ∧ Hid (findI s.data.toList v.data.toList i = findI s.data.toList v.data.toList k)) (fun iv => i + N + 2 - (intOf iv).toNat)
 case atStart => exact ⟨i, by omega, rfl, Lib.hid rfl⟩
 case round =>
  obtain ⟨k, hk, rfl, HE⟩ := hrel
  by_cases hlt : k + M ≤ N
  ·have g3 : decide ((k : Int) ≤ (N : Int) - (M : Int)) = true := by rw [decide_eq_true_eq]; omega
   have b1 : 2 * (k : Int) + (v.size : Int) ≤ (s.size : Int) := by omega
   have cu := CUT.out k
   by_cases he : (s.data.toList.drop (2 * k)).take v.data.toList.length = v.data.toList
   ·have R := Lib.hid (HE.out.trans (HIT.out k hlt he))
    rw [decide_eq_true he] at cu
    clear he
    go_wp2_with fail
    refine (L1.out).mono ?_
    rintro e w' ⟨rfl, rfl⟩
    go_wp2_with fail
    refine (L2.out).mono ?_
    rintro e w' ⟨rfl, rfl⟩
    go_wp2
    go_ret
    exact ⟨by rw [R.out]; rfl, rfl⟩
   ·have R := Lib.hid (HE.out.trans (NXT.out k hlt he))
    rw [decide_eq_false he] at cu
    clear he
    go_wp2_with fail
    refine (L1.out).mono ?_
    rintro e w' ⟨rfl, rfl⟩
    go_wp2_with fail
    refine (L2.out).mono ?_
    rintro e w' ⟨rfl, rfl⟩
    go_wp2
    go_round
    case rel => exact ⟨k + 1, by omega, by go_num, R⟩
    case measure => simp [intOf]; omega
  ·have g3 : decide ((k : Int) ≤ (N : Int) - (M : Int)) = false := by rw [decide_eq_false_iff_not]; omega
   have R := Lib.hid (HE.out.trans (NO.out k (by omega)))
   go_wp2_with fail
   refine (L1.out).mono ?_
   rintro e w' ⟨rfl, rfl⟩
   go_wp2_with fail
   refine (L2.out).mono ?_
   rintro e w' ⟨rfl, rfl⟩
   go_wp2
   go_ret
   exact ⟨by rw [R.out]; rfl, rfl⟩
end Go.Proofs.YthdfplafihmejaaGreat
