/-
  The reference's Less.
  The reference's Equal.
  The reference's Right and And.
  Sets of words: the reference's May.
  What the reference's like and Check say, in plain Lean.
  The reference's Kind, single, num and like.
  The reference's Check.
  Entries of access lists in memory; append of a slice that is cut full; the lists in plain Lean.
-/
import Derived.Test.YthdfplafihmejaaGreatSSet
import Derived.Test.YthdfplafihmejaaGreatSAt
import Derived.Test.YthdfplafihmejaaGreatKit2
import Derived.Deep.DeepCutAuto
import Derived.Deep.CutBlock
import Derived.Test.YthdfplafihmejaaGreatMRefs
import Derived.Test.YthdfplafihmejaaGreatCLike
import Derived.Test.YthdfplafihmejaaGreatRHelp
import Derived.Test.YthdfplafihmejaaGreatCCheck
import Derived.Deep.Upon
namespace Go.Proofs.YthdfplafihmejaaGreat
open Go.RowKit Go.Maps

end Go.Proofs.YthdfplafihmejaaGreat

namespace Go.Proofs.YthdfplafihmejaaGreat
open Go.RowKit Go.Maps

section
variable (w : World) (v u : Value) (G G' : Nat → Prop) (l m : List ByteArray)
end
end Go.Proofs.YthdfplafihmejaaGreat

namespace Go.Proofs.YthdfplafihmejaaGreat
open Go.RowKit Go.Maps

def lenV : Value → Nat
 | .slice _ n _ => n
 | _ => 0
end Go.Proofs.YthdfplafihmejaaGreat

namespace Go.Proofs.YthdfplafihmejaaGreat
open Go.RowKit Go.Maps

def Sizes (l : List ByteArray) : Prop := ∀ x ∈ l, x.size ≤ 140737488355328
end Go.Proofs.YthdfplafihmejaaGreat

namespace Go.Proofs.YthdfplafihmejaaGreat
open Go.RowKit Go.Maps

/-- The kind of a word's only atom. -/
def singleI (s : ByteArray) : Int := if alen s.data.toList = 1 then ((atomAt s.data.toList 0 / 8192 : Nat) : Int) else -1
/-- What the reference's like says. -/
def rlikeB (kind : Int) (len : Nat) (who : Int) (n k0 kl a0 sg : Nat) (d : Bool) : Bool :=
 if kind = 1 then decide (len = 1) && (decide (who = 1) && (decide (n = 2) && (decide (k0 = 3) && decide (kl = 5))))
 else if kind = 2 then decide (len = 1) && (decide (who = 1) && (decide (n = 1) && decide (a0 = sg)))
 else if kind = 3 then decide (len = 1) && decide (who = 2)
 else if kind = 4 then decide (len = 1) && (decide (who = 3) && (decide (n = 1) && decide (kl = 4)))
 else if kind = 5 then decide (len = 1) && ((decide (who = 1) || decide (who = 2)) && (decide (1 < n) && decide (kl = 5)))
 else if kind = 7 then d else true
end Go.Proofs.YthdfplafihmejaaGreat

namespace Go.Proofs.YthdfplafihmejaaGreat
open Go.RowKit Go.Maps

end Go.Proofs.YthdfplafihmejaaGreat

namespace Go.Proofs.YthdfplafihmejaaGreat
open Go.RowKit Go.Maps

end Go.Proofs.YthdfplafihmejaaGreat

namespace Go.Proofs.YthdfplafihmejaaGreat
open Go.RowKit Go.Maps


/-! append of a slice that is cut full -/
theorem own_grown {w : World} {e : TypeId} {z : Value} {size n m gc : Nat} {xs news : List Value} (hz : z.cells.size = size) (hlx : xs.length = n * size) (hln : news.length = m * size) (hge : n + m ≤ gc) (hcm : gc ≤ maxLen) :
  (w.drew.alloc (.cells (xs.toArray ++ news.toArray ++ Builtin.zeroCells z.cells (gc - (n + m))) e)).ownsRow w.heap.size e size (.slice (some ⟨w.heap.size, 0, none⟩) (n + m) gc) (n + m) (xs ++ news) := by
 refine ⟨by rw [List.length_append, hlx, hln, Nat.add_mul], .inr ⟨w.heap.size, gc, _, rfl, Nat.le_refl _, heap_alloc_new w.drew _, hge, hcm, ?_, ?_⟩⟩
 ·simp only [Array.size_append, List.size_toArray, size_zeroCells, hz, hlx, hln, ← Nat.add_mul]
  congr 1; omega
 ·simp only [Array.toList_append]
  rw [List.take_left' (by rw [List.length_append, hlx, hln, Nat.add_mul])]
theorem wpList_pushX {P : Program} {w : World} {ops : Array Oper} {rest : List Oper} {o : Oper} {a : Act} {Q : Exit → Act → World → Prop} (hgd : o.guard = none) (s x : Operand) (t : TypeId)
  (ho : o.op = .call { callee := .builtin .append, args := #[s, x], argTypes := #[t, t] }) (e : TypeId) (size bytes : Nat) (ht : P.underlying t = some (.slice e)) (hE : ElemInfo P e size bytes)
  (sa : Option Addr) (n : Nat) (xs : List Value) (hs : a.eval s = .slice sa n n) (hlx : xs.length = n * size) (hcx : ∀ (j : Nat) u, xs[j]? = some u → ∃ g o, sa = some ⟨g, o, none⟩ ∧ w.cell? ⟨g, o + j, none⟩ = some u) (hnil : sa = none → n = 0)
  (g go m c : Nat) (news : List Value) (hx : a.eval x = .slice (some ⟨g, go, none⟩) m c) (hl : news.length = m * size) (hcn : ∀ (j : Nat) u, news[j]? = some u → w.cell? ⟨g, go + j, none⟩ = some u) (hm : 0 < m)
  (h1 : ∀ u ∈ xs ++ news, u.oneCell' = true) (hbytes : (n + m) * bytes ≤ 140737488355328) (h63 : n + m ≤ maxLen)
  (h : ∀ v' w', w'.ownsRow w.heap.size e size v' (n + m) (xs ++ news) → Chg (fun _ => False) w w' → w.heap.size < w'.heap.size → wpList P ops Q rest (a.put o.dst v') w') : wpList P ops Q (o :: rest) a w := by
 obtain ⟨i, z, hi, hz, q1, q2, q3, q4⟩ := hE
 refine wpList_plain hgd fun K hK => ?_
 have hnews : ∀ j u, news[j]? = some u → w.cell? ((⟨g, go, none⟩ : Addr).add j) = some u := fun j u hj => by rw [addr_add]; exact hcn j u hj
 suffices hr : ∃ v' w', (Builtin.append_ #[t, t] o.type #[.slice sa n n, .slice (some ⟨g, go, none⟩) m c]).run P w = .ok v' w' ∧ w'.ownsRow w.heap.size e size v' (n + m) (xs ++ news) ∧ Chg (fun _ => False) w w' ∧ w.heap.size < w'.heap.size by
  obtain ⟨v', w', hr, h2, h3, h4⟩ := hr
  unfold Oper.wp execOp
  simp only [ho, resolve, invoke, builtin, Sem.run_bind, Sem.run_pure, Result.andThen_ok, List.map_toArray, List.map_cons, List.map_nil, hs, hx, hr]
  exact hK _ _ (h v' w' h2 h3 h4)
 have hge := grownCap_ge w (n + m) n e
 have hcm := grownCap_le_maxLen w (n + m) n e h63
 have hchg : ∀ cs, Chg (fun _ => False) w (w.drew.alloc (.cells cs e)) := fun cs => ((Chg.refl _ w).drew).alloc _
 cases sa with
 | none =>
  obtain rfl := hnil rfl
  obtain rfl : xs = [] := List.eq_nil_of_length_eq_zero (by simpa using hlx)
  simp only [Nat.zero_add] at hge hcm h63 hbytes ⊢
  have hr := run_append_nil (P := P) w t o.type e i z ht hi hz ⟨g, go, none⟩ m c news (by rw [q1]; exact hl) hnews hm (by simp only [maxLen] at h63; omega) (by rw [q2]; omega)
  refine ⟨_, _, hr, ?_, hchg _, by simp⟩
  have := own_grown (w := w) (e := e) (z := z) (size := size) (n := 0) (m := m) (gc := grownCap w m 0 e) (xs := []) (news := news) q3 (by simp) hl (by simpa using hge) (by simpa using hcm)
  simpa using this
 | some ad =>
  have holds : ∀ j u, xs[j]? = some u → w.cell? (ad.add j) = some u := fun j u hj => by
   obtain ⟨g', o', e1, c1⟩ := hcx j u hj
   cases e1
   rw [addr_add]; exact c1
  have hr := run_append_grow (P := P) w t o.type e i z ht hi hz ad n n xs (by rw [q1]; exact hlx) holds ⟨g, go, none⟩ m c news (by rw [q1]; exact hl) hnews (by omega) (by simp only [maxLen] at h63; omega) (growslice_fits (by omega) (by rw [q2]; exact hbytes))
  exact ⟨_, _, hr, own_grown q3 hlx hl hge hcm, hchg _, by simp⟩

/-! entries -/
def ecells (E : List (Int × Value)) : List Value := E.flatMap fun e => [.int .i64 e.1, e.2]
theorem ecells_append (E F : List (Int × Value)) : ecells (E ++ F) = ecells E ++ ecells F := by unfold ecells; rw [List.flatMap_append]
theorem ecells_length (E : List (Int × Value)) : (ecells E).length = E.length * 2 := by
 unfold ecells
 induction E with
 | nil => rfl
 | cons a t ih => rw [List.flatMap_cons, List.length_append, ih]; simp; omega
theorem ecells_get : ∀ (E : List (Int × Value)) (k : Nat) r, E[k]? = some r → (ecells E)[k * 2]? = some (.int .i64 r.1) ∧ (ecells E)[k * 2 + 1]? = some r.2
 | [], k, r, h => by simp at h
 | a :: t, 0, r, h => by
  simp at h
  subst h
  unfold ecells
  rw [List.flatMap_cons]
  exact ⟨rfl, rfl⟩
 | a :: t, k + 1, r, h => by
  obtain ⟨h1, h2⟩ := ecells_get t k r (by simpa using h)
  have e : ecells (a :: t) = [.int .i64 a.1, a.2] ++ ecells t := by unfold ecells; rw [List.flatMap_cons]
  rw [e]
  refine ⟨?_, ?_⟩
  ·rw [List.getElem?_append_right (by simp; omega)]; simpa [show (k + 1) * 2 - 2 = k * 2 by omega] using h1
  ·rw [List.getElem?_append_right (by simp; omega)]; simpa [show (k + 1) * 2 + 1 - 2 = k * 2 + 1 by omega] using h2
theorem ecells_at {E : List (Int × Value)} {j : Nat} {u : Value} (h : (ecells E)[j]? = some u) : ∃ k r, E[k]? = some r ∧ (j = k * 2 ∧ u = .int .i64 r.1 ∨ j = k * 2 + 1 ∧ u = r.2) := by
 have hl := (List.getElem?_eq_some_iff.1 h).1
 rw [ecells_length] at hl
 have hk : j / 2 < E.length := by omega
 refine ⟨j / 2, E[j / 2], List.getElem?_eq_getElem hk, ?_⟩
 obtain ⟨h1, h2⟩ := ecells_get E (j / 2) _ (List.getElem?_eq_getElem hk)
 rcases Nat.mod_two_eq_zero_or_one j with q | q
 ·rw [show j / 2 * 2 = j by omega, h] at h1
  exact .inl ⟨by omega, Option.some.inj h1⟩
 ·rw [show j / 2 * 2 + 1 = j by omega, h] at h2
  exact .inr ⟨by omega, Option.some.inj h2⟩
theorem ecells_one {E : List (Int × Value)} (h : ∀ e ∈ E, e.2.oneCell' = true) : ∀ v ∈ ecells E, v.oneCell' = true := by
 intro v hv
 unfold ecells at hv
 rw [List.mem_flatMap] at hv
 obtain ⟨r, hr, h2⟩ := hv
 simp at h2
 rcases h2 with rfl | rfl
 ·rfl
 ·exact h r hr
abbrev BEnt := Int × List ByteArray
/-- What entries' sets hold. -/
structure Ents (w : World) (G : Nat → Prop) (E : List (Int × Value)) (L : List BEnt) : Prop where
 len : E.length = L.length
 ent : ∀ (j : Nat) e x, E[j]? = some e → L[j]? = some x → e.1 = x.1 ∧ SetAt w e.2 G x.2
theorem Ents.one {w : World} {G : Nat → Prop} {E : List (Int × Value)} {L : List BEnt} (h : Ents w G E L) : ∀ e ∈ E, e.2.oneCell' = true := by
 intro e he
 obtain ⟨j, hj⟩ := List.mem_iff_getElem?.1 he
 have hl := (List.getElem?_eq_some_iff.1 hj).1
 obtain ⟨_, q⟩ := h.ent j e _ hj (List.getElem?_eq_getElem (by rw [← h.len]; exact hl))
 obtain ⟨a, c, e2⟩ := q.shape
 rw [e2]; rfl
theorem Ents.chg {S : Nat → Prop} {w w' : World} {G : Nat → Prop} {E : List (Int × Value)} {L : List BEnt} (h : Ents w G E L) (hc : Chg S w w') (hs : ∀ k, G k → ¬ S k) : Ents w' G E L :=
 ⟨h.len, fun j e x h1 h2 => ⟨(h.ent j e x h1 h2).1, (h.ent j e x h1 h2).2.chg hc hs⟩⟩
theorem Ents.up {w : World} {G G' : Nat → Prop} {E : List (Int × Value)} {L : List BEnt} (h : Ents w G E L) (hg : ∀ k, G k → G' k) : Ents w G' E L :=
 ⟨h.len, fun j e x h1 h2 => ⟨(h.ent j e x h1 h2).1, (h.ent j e x h1 h2).2.up hg⟩⟩
theorem Ents.snoc {w : World} {G : Nat → Prop} {E : List (Int × Value)} {L : List BEnt} (h : Ents w G E L) {e : Int × Value} {x : BEnt} (h1 : e.1 = x.1) (h2 : SetAt w e.2 G x.2) : Ents w G (E ++ [e]) (L ++ [x]) := by
 refine ⟨by simp [h.len], fun j e' x' q1 q2 => ?_⟩
 rcases Nat.lt_or_ge j E.length with q | q
 ·rw [List.getElem?_append_left q] at q1
  rw [List.getElem?_append_left (by rw [← h.len]; exact q)] at q2
  exact h.ent j e' x' q1 q2
 ·rw [List.getElem?_append_right q] at q1
  rw [List.getElem?_append_right (by rw [← h.len]; exact q)] at q2
  have hj : j - E.length = 0 := by
   have := (List.getElem?_eq_some_iff.1 q1).1
   simp at this; omega
  rw [hj] at q1
  rw [← h.len, hj] at q2
  simp at q1 q2
  subst q1 q2
  exact ⟨h1, h2⟩
/-- A slice of entries, to be read. -/
def EntsAt (w : World) (v : Value) (G : Nat → Prop) (L : List BEnt) : Prop :=
 ∃ E la cap, v = .slice la L.length cap ∧ L.length ≤ cap ∧ cap ≤ maxLen ∧ (la = none → cap = 0) ∧ Ents w G E L ∧
  ∀ (j : Nat) u, (ecells E)[j]? = some u → ∃ lb lo, la = some ⟨lb, lo, none⟩ ∧ G lb ∧ w.cell? ⟨lb, lo + j, none⟩ = some u
theorem EntsAt.chg {S : Nat → Prop} {w w' : World} {v : Value} {G : Nat → Prop} {L : List BEnt} (h : EntsAt w v G L) (hc : Chg S w w') (hs : ∀ k, G k → ¬ S k) : EntsAt w' v G L := by
 obtain ⟨E, la, cap, h1, h2, h3, h4, h5, h6⟩ := h
 exact ⟨E, la, cap, h1, h2, h3, h4, h5.chg hc hs, fun j u hj => by obtain ⟨lb, lo, q1, q2, q3⟩ := h6 j u hj; exact ⟨lb, lo, q1, q2, cell_chg hc (hs lb q2) q3⟩⟩
theorem EntsAt.up {w : World} {v : Value} {G G' : Nat → Prop} {L : List BEnt} (h : EntsAt w v G L) (hg : ∀ k, G k → G' k) : EntsAt w v G' L := by
 obtain ⟨E, la, cap, h1, h2, h3, h4, h5, h6⟩ := h
 exact ⟨E, la, cap, h1, h2, h3, h4, h5.up hg, fun j u hj => by obtain ⟨lb, lo, q1, q2, q3⟩ := h6 j u hj; exact ⟨lb, lo, q1, hg _ q2, q3⟩⟩
theorem EntsAt.get {w : World} {la : Option Addr} {n cap : Nat} {G : Nat → Prop} {L : List BEnt} (h : EntsAt w (.slice la n cap) G L) {j : Nat} {x : BEnt} (hj : L[j]? = some x) :
  ∃ g o sa sc, la = some ⟨g, o, none⟩ ∧ G g ∧ w.cell? ⟨g, o + j * 2, none⟩ = some (.int .i64 x.1) ∧ w.cell? ⟨g, o + j * 2 + 1, none⟩ = some (.slice sa x.2.length sc) ∧ SetAt w (.slice sa x.2.length sc) G x.2 := by
 obtain ⟨E, la', cap', e, _, _, _, h5, h6⟩ := h
 cases e
 have hl := (List.getElem?_eq_some_iff.1 hj).1
 obtain ⟨e, he⟩ : ∃ e, E[j]? = some e := ⟨_, List.getElem?_eq_getElem (by rw [h5.len]; exact hl)⟩
 obtain ⟨q1, q2⟩ := h5.ent j e x he hj
 obtain ⟨c1, c2⟩ := ecells_get E j e he
 obtain ⟨g, o, e1, hg, d1⟩ := h6 _ _ c1
 obtain ⟨g', o', e2, _, d2⟩ := h6 _ _ c2
 cases e1
 cases e2
 obtain ⟨sa, sc, e3⟩ := q2.shape
 rw [e3] at d2 q2
 rw [q1] at d1
 exact ⟨g, o, sa, sc, rfl, hg, d1, by rw [Nat.add_assoc]; exact d2, q2⟩
theorem EntsAt.shape {w : World} {v : Value} {G : Nat → Prop} {L : List BEnt} (h : EntsAt w v G L) : ∃ la cap, v = .slice la L.length cap ∧ L.length ≤ cap ∧ cap ≤ maxLen := by
 obtain ⟨E, la, cap, h1, h2, h3, _⟩ := h
 exact ⟨la, cap, h1, h2, h3⟩
theorem entsAt_nil (w : World) (G : Nat → Prop) : EntsAt w (.slice none 0 0) G [] :=
 ⟨[], none, 0, rfl, Nat.le_refl _, by unfold maxLen; omega, fun _ => rfl, ⟨rfl, fun j e x h => by simp at h⟩, fun j u h => by simp [ecells] at h⟩
theorem entsAt_own {w : World} {base : Nat} {v : Value} {G : Nat → Prop} {E : List (Int × Value)} {L : List BEnt} (h : w.ownsRow base 56 2 v E.length (ecells E)) (hE : Ents w G E L) (hG : ∀ k, v.ownBlock = some k → G k) : EntsAt w v G L := by
 have h0 := h
 obtain ⟨h1, ⟨rfl, h2⟩ | ⟨g, cap, cur, rfl, hg, hh, q1, q2, q3, q4⟩⟩ := h
 ·have hn : L = [] := List.eq_nil_of_length_eq_zero (by rw [← hE.len, h2])
  subst hn
  exact entsAt_nil w G
 ·refine ⟨E, _, cap, by rw [hE.len], by rw [← hE.len]; exact q1, q2, (fun e => by cases e), hE, fun j u hj => ⟨g, 0, rfl, hG g rfl, ?_⟩⟩
  have hj' := (List.getElem?_eq_some_iff.1 hj).1
  rw [ecells_length] at hj'
  rw [Nat.zero_add, h0.cellAt (j := j) (by omega)]
  exact hj
theorem Tryz.elemEntry : ElemInfo Tryz.prog 56 2 32 := elemInfo_of (z := .agg #[.int .i64 0, .slice none 0 0]) (by kernel_rfl) rfl (by decide)

/-! lists, plain -/
def EntMay (x : BEnt) : Prop := (0 ≤ x.1 ∧ x.1 < 8) ∧ setB x.2 = true
instance (x : BEnt) : Decidable (EntMay x) := by unfold EntMay; infer_instance
def entB (x : BEnt) : Bool := decide (EntMay x)
theorem entB_iff {x : BEnt} : entB x = true ↔ (0 ≤ x.1 ∧ x.1 < 8) ∧ setB x.2 = true := decide_eq_true_iff
theorem setB_len {l : List ByteArray} (h : setB l = true) : 1 ≤ l.length ∧ l.length ≤ 16 := by
 have h := of_decide_eq_true h
 have h1 := h.1
 have h2 := h.2.1
 rw [lists_length] at h1 h2
 exact ⟨h1, h2⟩
def addE (x : BEnt) (L : List BEnt) : Int := if entB x = true then (if x ∈ L then 11 else if 12 ≤ L.length then 3 else 0) else 2
def addL (x : BEnt) (L : List BEnt) : List BEnt := if addE x L = 0 then L ++ [x] else L
def remE (x : BEnt) (L : List BEnt) : Int := if entB x = true then (if x ∈ L then 0 else 10) else 2
def remL (x : BEnt) (L : List BEnt) : List BEnt := if remE x L = 0 then L.erase x else L
/-- What a list is always. -/
structure LOk (L : List BEnt) : Prop where
 nodup : L.Nodup
 may : ∀ x ∈ L, entB x = true
 few : L.length ≤ 12
theorem addE_zero {x : BEnt} {L : List BEnt} (h : addE x L = 0) : entB x = true ∧ x ∉ L ∧ L.length < 12 := by
 unfold addE at h
 by_cases h1 : entB x = true
 ·rw [if_pos h1] at h
  by_cases h2 : x ∈ L
  ·rw [if_pos h2] at h; simp at h
  ·rw [if_neg h2] at h
   by_cases h3 : 12 ≤ L.length
   ·rw [if_pos h3] at h; simp at h
   ·exact ⟨h1, h2, by omega⟩
 ·rw [if_neg h1] at h; simp at h
/-- All entries of a list are added: the error, or 0 where all are. -/
def newE : List BEnt → List BEnt → Int
 | _, [] => 0
 | L, x :: r => if addE x L = 0 then newE (L ++ [x]) r else addE x L
theorem newE_step {l : List BEnt} {k : Nat} {x : BEnt} (hx : l[k]? = some x) : newE (l.take k) (l.drop k) = if addE x (l.take k) = 0 then newE (l.take (k + 1)) (l.drop (k + 1)) else addE x (l.take k) := by
 have hl := (List.getElem?_eq_some_iff.1 hx).1
 rw [List.drop_eq_getElem_cons hl, newE, (List.getElem?_eq_some_iff.1 hx).2, List.take_add_one, hx]; rfl
end Go.Proofs.YthdfplafihmejaaGreat
