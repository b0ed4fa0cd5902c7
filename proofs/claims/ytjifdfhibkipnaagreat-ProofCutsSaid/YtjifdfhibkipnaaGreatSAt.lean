/-
  Sets of words in memory.
-/
import Derived.Test.YtjifdfhibkipnaaGreatSSet
import Derived.Test.YtjifdfhibkipnaaGreatMRefs
namespace Go.Proofs.YtjifdfhibkipnaaGreat
open Go.RowKit Go.Maps

/-- What came in as a slice of words: nil has no room. -/
structure SetAt (w : World) (v : Value) (G : Nat → Prop) (l : List ByteArray) : Prop where
  at_ : WordsAt w v G l
  nil : ∀ n c, v = .slice none n c → n = 0 ∧ c = 0
theorem SetAt.chg {S : Nat → Prop} {w w' : World} {v : Value} {G : Nat → Prop} {l : List ByteArray} (h : SetAt w v G l) (hc : Chg S w w') (hs : ∀ k, G k → ¬ S k) : SetAt w' v G l := ⟨h.at_.chg hc hs, h.nil⟩
theorem WordsAt.up {w : World} {v : Value} {G G' : Nat → Prop} {l : List ByteArray} (h : WordsAt w v G l) (hg : ∀ k, G k → G' k) : WordsAt w v G' l := by
  obtain ⟨la, cap, h1, h2, h3⟩ := h
  exact ⟨la, cap, h1, h2, fun j r hj => by obtain ⟨lb, lo, q1, q2, q3⟩ := h3 j r hj; exact ⟨lb, lo, q1, hg _ q2, q3⟩⟩
theorem SetAt.up {w : World} {v : Value} {G G' : Nat → Prop} {l : List ByteArray} (h : SetAt w v G l) (hg : ∀ k, G k → G' k) : SetAt w v G' l := ⟨h.at_.up hg, h.nil⟩
theorem SetAt.shape {w : World} {v : Value} {G : Nat → Prop} {l : List ByteArray} (h : SetAt w v G l) : ∃ a c, v = .slice a l.length c := by
  obtain ⟨la, cap, e, _⟩ := h.at_
  exact ⟨la, cap, e⟩
theorem SetAt.some {w : World} {a : Option Addr} {n c : Nat} {G : Nat → Prop} {l : List ByteArray} (h : SetAt w (.slice a n c) G l) (hn : 0 < l.length) : ∃ g o, a = some ⟨g, o, none⟩ ∧ G g := by
  obtain ⟨la, cap, e, _, hc⟩ := h.at_
  cases e
  obtain ⟨g, o, e, q, _⟩ := hc 0 _ (List.getElem?_eq_getElem hn)
  exact ⟨g, o, e, q⟩
theorem words_src {w : World} {la : Option Addr} {n cap : Nat} {G : Nat → Prop} {l : List ByteArray} (h : WordsAt w (.slice la n cap) G l) : ∀ (j : Nat) u, (wcells l)[j]? = some u → ∃ g o, la = some ⟨g, o, none⟩ ∧ w.cell? ⟨g, o + j, none⟩ = some u := by
  obtain ⟨la', cap', e, _, hc⟩ := h
  cases e
  intro j u hj
  unfold wcells at hj
  rw [List.getElem?_map] at hj
  cases hq : l[j]? with
  | none => rw [hq] at hj; cases hj
  | some x =>
    rw [hq] at hj
    cases hj
    obtain ⟨g, o, e1, _, c, _⟩ := hc j x hq
    exact ⟨g, o, e1, c⟩
theorem setAt_own {w : World} {base : Nat} {v : Value} {l : List ByteArray} (h : w.ownsRow base 24 1 v l.length (wcells l)) (hs : ∀ x ∈ l, x.size ≤ maxLen) : SetAt w v (fun k => v.ownBlock = Option.some k) l := by
  refine ⟨?_, ?_⟩
  · obtain ⟨a, cap, rfl, h1, h2⟩ := own_get h
    refine ⟨a, cap, rfl, h1, fun j x hj => ?_⟩
    obtain ⟨g, rfl, hg, c⟩ := h2 j (.string x) (by unfold wcells; rw [List.getElem?_map, hj]; rfl)
    exact ⟨g, 0, rfl, rfl, by rw [Nat.zero_add]; exact c, hs x (List.mem_of_getElem? hj)⟩
  · intro n c e
    obtain ⟨_, ⟨e2, _⟩ | ⟨g, cap, cur, e2, _⟩⟩ := h
    · rw [e2] at e; cases e; exact ⟨rfl, rfl⟩
    · rw [e2] at e; cases e
end Go.Proofs.YtjifdfhibkipnaaGreat
