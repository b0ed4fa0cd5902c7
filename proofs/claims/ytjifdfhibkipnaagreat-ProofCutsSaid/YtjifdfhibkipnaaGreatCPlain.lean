/-
  Certificates in plain Lean: which may be.
-/
import Derived.Test.YtjifdfhibkipnaaGreatSSet
import Derived.Test.YtjifdfhibkipnaaGreatMRefs
namespace Go.Proofs.YtjifdfhibkipnaaGreat
open Go.RowKit Go.Maps

theorem setB_mayC {s : List ByteArray} (h : setB s = true) {x : ByteArray} (hx : x ∈ s) : mayB x.data.toList = true := by
  obtain ⟨j, hj⟩ := List.mem_iff_getElem?.1 hx
  obtain ⟨_, _, h3⟩ := of_decide_eq_true h
  have := (h3 j (by rw [lists_len]; exact (List.getElem?_eq_some_iff.1 hj).1)).1
  rwa [lists_getB hj] at this
structure BCert where
  kind : Int
  sg : Nat
  sp : ByteArray
  fr : List ByteArray
  f : Int
  t : Int
  n : Int
deriving DecidableEq
def numB (n : Int) : Bool := decide (0 ≤ n ∧ n ≤ 4611686018427387904)
/-- A word that is one atom, of one of some kinds. -/
def aloneB (w : ByteArray) (ks : List Nat) : Bool := decide (alen w.data.toList = 1) && decide (atomAt w.data.toList 0 / 8192 ∈ ks)
/-- The word with D for its first atom. -/
def toldW (sp : ByteArray) : ByteArray := ⟨(swapAt sp.data.toList 0 1 [0, 1]).toArray⟩
def atomW (a : Nat) : ByteArray := ⟨(ofAtoms [a]).toArray⟩
def delB (c : BCert) : Bool := decide (2 ≤ alen c.sp.data.toList) && (decide (∀ x ∈ c.fr, x = c.sp ∨ x = toldW c.sp) && (decide (c.sp ∈ c.fr) && decide (toldW c.sp ∈ c.fr)))
def likeB (c : BCert) : Bool :=
  if c.kind = 6 then true
  else if c.kind = 7 then delB c
  else match c.fr with
    | [w] =>
      if c.kind = 1 then aloneB c.sp [1] && (decide (alen w.data.toList = 2) && (decide (atomAt w.data.toList 0 / 8192 = 3) && decide (atomAt w.data.toList 1 / 8192 = 5)))
      else if c.kind = 2 then aloneB c.sp [1] && decide (w = atomW c.sg)
      else if c.kind = 3 then aloneB c.sp [2]
      else if c.kind = 4 then aloneB c.sp [3] && aloneB w [4]
      else if c.kind = 5 then aloneB c.sp [1, 2] && (decide (2 ≤ alen w.data.toList) && decide (atomAt w.data.toList (alen w.data.toList - 1) / 8192 = 5))
      else false
    | _ => false
/-- What may be written in a certificate. -/
def formB (c : BCert) : Bool := decide (c.sg / 8192 = 1) && (mayB c.sp.data.toList && (setB c.fr && (numB c.f && (numB c.t && numB c.n))))
def certB (c : BCert) : Bool := decide (1 ≤ c.kind ∧ c.kind ≤ 7) && (formB c && (decide (c.f ≤ c.t) && (decide (∀ w ∈ c.fr, alen c.sp.data.toList ≤ alen w.data.toList) && likeB c)))
structure CertMay (c : BCert) : Prop where
  k1 : 1 ≤ c.kind
  k7 : c.kind ≤ 7
  sg : c.sg / 8192 = 1
  sp : mayB c.sp.data.toList = true
  fr : setB c.fr = true
  f0 : 0 ≤ c.f
  f1 : c.f ≤ 4611686018427387904
  t0 : 0 ≤ c.t
  t1 : c.t ≤ 4611686018427387904
  n0 : 0 ≤ c.n
  n1 : c.n ≤ 4611686018427387904
  ft : c.f ≤ c.t
  len : ∀ w ∈ c.fr, alen c.sp.data.toList ≤ alen w.data.toList
theorem certB_may {c : BCert} (h : certB c = true) : CertMay c := by
  unfold certB formB numB at h
  simp only [Bool.and_eq_true, decide_eq_true_eq] at h
  obtain ⟨⟨h1, h2⟩, ⟨h3, h4, h5, ⟨h6, h7⟩, ⟨h8, h9⟩, h10, h11⟩, h12, h13, _⟩ := h
  exact ⟨h1, h2, h3, h4, h5, h6, h7, h8, h9, h10, h11, h12, h13⟩
end Go.Proofs.YtjifdfhibkipnaaGreat
