/-
  The order of words; words sorted, each once (the reference's Right), in plain Lean.
  Package set: Has; the reference's Has.
  slices.Equal of sets.
  Sets of words in memory.
  Certificates in plain Lean: which may be.
-/
import Derived.Test.YthdfplafihmejaaGreatSSet
import Derived.Sort.Walk0
import Derived.Test.YthdfplafihmejaaGreatMRefs
namespace Go.Proofs.YthdfplafihmejaaGreat
open Go.RowKit Go.Maps

/-! the order of words -/
def lessW (a b : ByteArray) : Bool := lessB a.data.toList b.data.toList
theorem lessB_iff {a b : Wd} : lessB a b = true ↔ a.length < b.length ∨ a.length = b.length ∧ a < b := by
 unfold lessB
 by_cases h : a.length = b.length
 ·rw [if_pos h, bytesLess_eq, decide_eq_true_iff]
  constructor
  ·exact fun q => .inr ⟨h, q⟩
  ·rintro (q | q)
   ·omega
   ·exact q.2
 ·rw [if_neg h, decide_eq_true_iff]
  constructor
  ·exact fun q => .inl q
  ·rintro (q | q)
   ·exact q
   ·exact (h q.1).elim
theorem lessB_irrefl (a : Wd) : lessB a a = false := by
 rw [← Bool.not_eq_true, lessB_iff]
 rintro (h | h)
 ·omega
 ·exact List.lt_irrefl a h.2
theorem lessB_trans {a b c : Wd} (h : lessB a b = true) (k : lessB b c = true) : lessB a c = true := by
 rw [lessB_iff] at *
 rcases h with h | ⟨h, h2⟩ <;> rcases k with k | ⟨k, k2⟩
 ·exact .inl (by omega)
 ·exact .inl (by omega)
 ·exact .inl (by omega)
 ·exact .inr ⟨by omega, List.lt_trans h2 k2⟩
theorem lessB_total {a b : Wd} (h : lessB a b = false) (k : lessB b a = false) : a = b := by
 rw [← Bool.not_eq_true, lessB_iff] at h k
 have hl : a.length = b.length := by
  rcases Nat.lt_trichotomy a.length b.length with q | q | q
  ·exact (h (.inl q)).elim
  ·exact q
  ·exact (k (.inl q)).elim
 exact List.le_antisymm (List.not_lt.1 fun q => k (.inr ⟨hl.symm, q⟩)) (List.not_lt.1 fun q => h (.inr ⟨hl, q⟩))
/-! Right -/
def afterB (last : Option ByteArray) (x : ByteArray) : Bool := match last with | none => true | some y => lessW y x
def betterB (best : Option ByteArray) (x : ByteArray) : Bool := match best with | none => true | some y => lessW x y
def pickB (last best : Option ByteArray) (x : ByteArray) : Option ByteArray := if (afterB last x && betterB best x) = true then some x else best
def nextB (last : Option ByteArray) (l : List ByteArray) : Option ByteArray := l.foldl (pickB last) none
/-- Words that were taken so far, the least ones, rising. -/
structure RightI (l out : List ByteArray) : Prop where
 sub : ∀ x ∈ out, x ∈ l
 srt : out.Pairwise fun a b => lessW a b = true
 rest : ∀ x ∈ l, x ∈ out ∨ afterB out.getLast? x = true
end Go.Proofs.YthdfplafihmejaaGreat

namespace Go.Proofs.YthdfplafihmejaaGreat
open Go.RowKit Go.Maps

section
variable (w : World) (v : Value) (G : Nat → Prop) (l : List ByteArray) (x : ByteArray)
theorem index_any (hv : WordsAt w v G l) : Calls Tryz.prog 167 #[v, .string x] w fun e w' => e = .returned (.int .i64 (idxI l x)) ∧ w = w' := by
 obtain ⟨la, cap, rfl, hl0, hcl⟩ := hv
 have HCL := Lib.hid hcl
 unfold maxLen at hl0
 clear hcl
 go_enter Tryz.func167, Tryz.ntmps167
 go_wp2
 go_loop [8] (fun iv => ∃ k : Nat, k ≤ l.length ∧ iv = .int .i64 k ∧ Hid (∀ j, j < k → l[j]? ≠ some x)) (fun iv => l.length - (intOf iv).toNat)
 case atStart => exact ⟨0, by omega, rfl, Lib.hid (fun j hj => by omega)⟩
 case round =>
  obtain ⟨k, hk, rfl, HI⟩ := hrel
  by_cases hlt : k < l.length
  ·obtain ⟨y, hy⟩ : ∃ y, l[k]? = some y := ⟨_, List.getElem?_eq_getElem hlt⟩
   obtain ⟨lb, lo, rfl, _, c0, _⟩ := HCL.out k y hy
   by_cases hxy : x = y
   ·have n1 : (x.toList == y.toList) = true := by rw [str_eq, decide_eq_true hxy]
    have R := Lib.hid (show idxI l x = (k : Int) by
     have := idx_at (hxy ▸ hy) HI.out
     unfold idxI
     rw [if_pos this.1, this.2])
    clear hy hxy
    go_wp2
    go_ret
    exact ⟨by rw [R.out]; rfl, rfl⟩
   ·have n1 : (x.toList == y.toList) = false := by rw [str_eq, decide_eq_false hxy]
    have HI2 := Lib.hid (show ∀ j, j < k + 1 → l[j]? ≠ some x from fun j hj => by
     rcases Nat.lt_or_ge j k with q | q
     ·exact HI.out j q
     ·obtain rfl : j = k := by omega
      rw [hy]; exact fun e => hxy (Option.some.inj e).symm)
    clear hy hxy
    go_wp2
    go_round
    case rel => exact ⟨k + 1, by omega, by go_num, HI2⟩
    case measure => simp [intOf]; omega
  ·obtain rfl : k = l.length := by omega
   have R := Lib.hid (show idxI l x = -1 from if_neg (idx_none HI.out))
   go_wp2
   go_ret
   exact ⟨by rw [R.out]; rfl, rfl⟩
theorem has_any (hv : WordsAt w v G l) : Calls Tryz.prog 137 #[v, .string x] w fun e w' => e = .returned (.bool (hasB l x)) ∧ w = w' := by
 have IX := Lib.hid (index_any w v G l x hv)
 obtain ⟨la, cap, rfl, hl0, _⟩ := hv
 by_cases h : x ∈ l
 ·have R := Lib.hid (show hasB l x = true from decide_eq_true h)
  have q : 0 ≤ idxI l x := by unfold idxI; rw [if_pos h]; omega
  have g : decide (0 ≤ idxI l x) = true := decide_eq_true q
  clear h
  go_enter Tryz.func137, Tryz.ntmps137
  go_wp2_with (first | ((with_reducible refine (IX.out).mono ?_); rintro e w1 ⟨rfl, rfl⟩) | go_in)
  go_ret
  exact ⟨by rw [R.out]; rfl, rfl⟩
 ·have R := Lib.hid (show hasB l x = false from decide_eq_false h)
  have q : idxI l x = -1 := if_neg h
  rw [q] at IX
  clear h q
  go_enter Tryz.func137, Tryz.ntmps137
  go_wp2_with (first | ((with_reducible refine (IX.out).mono ?_); rintro e w1 ⟨rfl, rfl⟩) | go_in)
  go_ret
  exact ⟨by rw [R.out]; rfl, rfl⟩
end
end Go.Proofs.YthdfplafihmejaaGreat

namespace Go.Proofs.YthdfplafihmejaaGreat
open Go.RowKit Go.Maps

section
variable (w : World) (v u : Value) (G G' : Nat → Prop) (l m : List ByteArray)
theorem equal_any (hv : WordsAt w v G l) (hu : WordsAt w u G' m) : Calls Tryz.prog 164 #[v, u] w fun e w' => e = .returned (.bool (sameB l m)) ∧ Drawn w w' := by
 obtain ⟨la, cap, rfl, hl0, hcl⟩ := hv
 obtain ⟨ma, mcap, rfl, hm0, hcm⟩ := hu
 have HCL := Lib.hid hcl
 have HCM := Lib.hid hcm
 unfold maxLen at hl0 hm0
 clear hcl hcm
 by_cases hlen : l.length = m.length
 ·have g : ((l.length : Int) != (m.length : Int)) = false := by rw [bne_eq_false_iff_eq]; omega
  have g2 : ((l.length : Int) == (m.length : Int)) = true := by rw [beq_iff_eq]; omega
  have HL := Lib.hid hlen
  have hle1 : l.length ≤ m.length := by omega
  have hle2 : m.length ≤ l.length := by omega
  clear hlen
  go_enter Tryz.func164, Tryz.ntmps164
  go_wp2
  go_loopw [13] (fun iv wr => ∃ k : Nat, k ≤ l.length ∧ iv = .int .i64 k ∧ Hid ((∀ j, j < k → l[j]? = m[j]?) ∧ Drawn w wr)) (fun iv _ => l.length - (intOf iv).toNat)
  case atStart => exact ⟨0, by omega, rfl, Lib.hid ⟨fun j hj => by omega, Drawn.refl _⟩⟩
  case round =>
   obtain ⟨k, hk, rfl, HI⟩ := hrel
   by_cases hlt : k < l.length
   ·have hltm : k < m.length := by omega
    obtain ⟨y, hy⟩ : ∃ y, l[k]? = some y := ⟨_, List.getElem?_eq_getElem hlt⟩
    obtain ⟨z, hz⟩ : ∃ z, m[k]? = some z := ⟨_, List.getElem?_eq_getElem hltm⟩
    obtain ⟨lb, lo, rfl, _, c0', _⟩ := HCL.out k y hy
    obtain ⟨mb, mo, rfl, _, d0', _⟩ := HCM.out k z hz
    have c0 := drawn_cell HI.out.2 c0'
    have d0 := drawn_cell HI.out.2 d0'
    have DR := Lib.hid HI.out.2
    by_cases hxy : y = z
    ·have n1 : (y.toList != z.toList) = false := by rw [str_ne, decide_eq_true hxy]; rfl
     have n2 : (y.toList == z.toList) = true := by rw [str_eq, decide_eq_true hxy]
     have HI2 := Lib.hid (show ∀ j, j < k + 1 → l[j]? = m[j]? from fun j hj => by
      rcases Nat.lt_or_ge j k with q | q
      ·exact HI.out.1 j q
      ·obtain rfl : j = k := by omega
       rw [hy, hz, hxy])
     clear hy hz hxy c0' d0' HI
     go_wp2_with fail
     go_quiet (fail)
     rename_i nq
     have DQ := Lib.hid (show Drawn w (wr.drewN nq) from DR.out.trans ⟨nq, rfl⟩)
     go_wp2
     go_roundw
     case rel => exact ⟨k + 1, by omega, by go_num, Lib.hid ⟨HI2.out, DQ.out⟩⟩
     case measure => simp [intOf]; omega
    ·have n1 : (y.toList != z.toList) = true := by rw [str_ne, decide_eq_false hxy]; rfl
     have n2 : (y.toList == z.toList) = false := by rw [str_eq, decide_eq_false hxy]
     have R := Lib.hid (show sameB l m = false from decide_eq_false (fun e => by rw [e, hz] at hy; exact hxy (Option.some.inj hy).symm))
     clear hy hz hxy c0' d0' HI
     go_wp2_with fail
     go_quiet (fail)
     rename_i nq
     have DQ := Lib.hid (show Drawn w (wr.drewN nq) from DR.out.trans ⟨nq, rfl⟩)
     go_wp2
     go_ret
     exact ⟨by rw [R.out]; rfl, DQ.out⟩
   ·obtain rfl : k = l.length := by omega
    have R := Lib.hid (show sameB l m = true from decide_eq_true (same_of HL.out HI.out.1))
    go_wp2
    go_ret
    exact ⟨by rw [R.out]; rfl, HI.out.2⟩
 ·have g : ((l.length : Int) != (m.length : Int)) = true := by rw [bne_iff_ne]; omega
  have g2 : ((l.length : Int) == (m.length : Int)) = false := by rw [beq_eq_false_iff_ne]; omega
  have R := Lib.hid (show sameB l m = false from decide_eq_false (fun e => hlen (by rw [e])))
  clear hlen
  go_enter Tryz.func164, Tryz.ntmps164
  go_wp2
  go_ret
  exact ⟨by rw [R.out]; rfl, Drawn.refl _⟩
end
end Go.Proofs.YthdfplafihmejaaGreat

namespace Go.Proofs.YthdfplafihmejaaGreat
open Go.RowKit Go.Maps

/-- What came in as a slice of words: nil has no room. -/
structure SetAt (w : World) (v : Value) (G : Nat → Prop) (l : List ByteArray) : Prop where
 at_ : WordsAt w v G l
 nil : ∀ n c, v = .slice none n c → n = 0 ∧ c = 0
theorem SetAt.chg {S : Nat → Prop} {w w' : World} {v : Value} {G : Nat → Prop} {l : List ByteArray} (h : SetAt w v G l) (hc : Chg S w w') (hs : ∀ k, G k → ¬ S k) : SetAt w' v G l := ⟨h.at_.chg hc hs, h.nil⟩
theorem WordsAt.up {w : World} {v : Value} {G G' : Nat → Prop} {l : List ByteArray} (h : WordsAt w v G l) (hg : ∀ k, G k → G' k) : WordsAt w v G' l := by
 obtain ⟨la, cap, h1, h2, h3⟩ := h
 exact ⟨la, cap, h1, h2, fun j r hj => by obtain ⟨lb, lo, q1, q2, q3⟩ := h3 j r hj; exact ⟨lb, lo, q1, hg _ q2, q3⟩⟩
theorem SetAt.up {w : World} {v : Value} {G G' : Nat → Prop} {l : List ByteArray} (h : SetAt w v G l) (hg : ∀ k, G k → G' k) : SetAt w v G' l := ⟨h.at_.up hg, h.nil⟩
theorem SetAt.shape {w : World} {v : Value} {G : Nat → Prop} {l : List ByteArray} (h : SetAt w v G l) : ∃ a c, v = .slice a l.length c := by
 obtain ⟨la, cap, e, _⟩ := h.at_
 exact ⟨la, cap, e⟩
theorem SetAt.some {w : World} {a : Option Addr} {n c : Nat} {G : Nat → Prop} {l : List ByteArray} (h : SetAt w (.slice a n c) G l) (hn : 0 < l.length) : ∃ g o, a = some ⟨g, o, none⟩ ∧ G g := by
 obtain ⟨la, cap, e, _, hc⟩ := h.at_
 cases e
 obtain ⟨g, o, e, q, _⟩ := hc 0 _ (List.getElem?_eq_getElem hn)
 exact ⟨g, o, e, q⟩
theorem words_src {w : World} {la : Option Addr} {n cap : Nat} {G : Nat → Prop} {l : List ByteArray} (h : WordsAt w (.slice la n cap) G l) : ∀ (j : Nat) u, (wcells l)[j]? = some u → ∃ g o, la = some ⟨g, o, none⟩ ∧ w.cell? ⟨g, o + j, none⟩ = some u := by
 obtain ⟨la', cap', e, _, hc⟩ := h
 cases e
 intro j u hj
 unfold wcells at hj
 rw [List.getElem?_map] at hj
 cases hq : l[j]? with
 | none => rw [hq] at hj; cases hj
 | some x =>
  rw [hq] at hj
  cases hj
  obtain ⟨g, o, e1, _, c, _⟩ := hc j x hq
  exact ⟨g, o, e1, c⟩
theorem setAt_own {w : World} {base : Nat} {v : Value} {l : List ByteArray} (h : w.ownsRow base 57 1 v l.length (wcells l)) (hs : ∀ x ∈ l, x.size ≤ maxLen) : SetAt w v (fun k => v.ownBlock = Option.some k) l := by
 refine ⟨?_, ?_⟩
 ·obtain ⟨a, cap, rfl, h1, h2⟩ := own_get h
  refine ⟨a, cap, rfl, h1, fun j x hj => ?_⟩
  obtain ⟨g, rfl, hg, c⟩ := h2 j (.string x) (by unfold wcells; rw [List.getElem?_map, hj]; rfl)
  exact ⟨g, 0, rfl, rfl, by rw [Nat.zero_add]; exact c, hs x (List.mem_of_getElem? hj)⟩
 ·intro n c e
  obtain ⟨_, ⟨e2, _⟩ | ⟨g, cap, cur, e2, _⟩⟩ := h
  ·rw [e2] at e; cases e; exact ⟨rfl, rfl⟩
  ·rw [e2] at e; cases e
end Go.Proofs.YthdfplafihmejaaGreat

namespace Go.Proofs.YthdfplafihmejaaGreat
open Go.RowKit Go.Maps

theorem setB_mayC {s : List ByteArray} (h : setB s = true) {x : ByteArray} (hx : x ∈ s) : mayB x.data.toList = true := by
 obtain ⟨j, hj⟩ := List.mem_iff_getElem?.1 hx
 obtain ⟨_, _, h3⟩ := of_decide_eq_true h
 have := (h3 j (by rw [lists_len]; exact (List.getElem?_eq_some_iff.1 hj).1)).1
 rwa [lists_getB hj] at this
structure BCert where
 kind : Int
 sg : Nat
 sp : ByteArray
 fr : List ByteArray
 f : Int
 t : Int
 n : Int
deriving DecidableEq
def numB (n : Int) : Bool := decide (0 ≤ n ∧ n ≤ 4611686018427387904)
/-- A word that is one atom, of one of some kinds. -/
def aloneB (w : ByteArray) (ks : List Nat) : Bool := decide (alen w.data.toList = 1) && decide (atomAt w.data.toList 0 / 8192 ∈ ks)
/-- The word with D for its first atom. -/
def toldW (sp : ByteArray) : ByteArray := ⟨(swapAt sp.data.toList 0 1 [0, 1]).toArray⟩
def atomW (a : Nat) : ByteArray := ⟨(ofAtoms [a]).toArray⟩
def delB (c : BCert) : Bool := decide (2 ≤ alen c.sp.data.toList) && (decide (∀ x ∈ c.fr, x = c.sp ∨ x = toldW c.sp) && (decide (c.sp ∈ c.fr) && decide (toldW c.sp ∈ c.fr)))
def likeB (c : BCert) : Bool :=
 if c.kind = 6 then true
 else if c.kind = 7 then delB c
 else match c.fr with
  | [w] =>
   if c.kind = 1 then aloneB c.sp [1] && (decide (alen w.data.toList = 2) && (decide (atomAt w.data.toList 0 / 8192 = 3) && decide (atomAt w.data.toList 1 / 8192 = 5)))
   else if c.kind = 2 then aloneB c.sp [1] && decide (w = atomW c.sg)
   else if c.kind = 3 then aloneB c.sp [2]
   else if c.kind = 4 then aloneB c.sp [3] && aloneB w [4]
   else if c.kind = 5 then aloneB c.sp [1, 2] && (decide (2 ≤ alen w.data.toList) && decide (atomAt w.data.toList (alen w.data.toList - 1) / 8192 = 5))
   else false
  | _ => false
/-- What may be written in a certificate. -/
def formB (c : BCert) : Bool := decide (c.sg / 8192 = 1) && (mayB c.sp.data.toList && (setB c.fr && (numB c.f && (numB c.t && numB c.n))))
def certB (c : BCert) : Bool := decide (1 ≤ c.kind ∧ c.kind ≤ 7) && (formB c && (decide (c.f ≤ c.t) && (decide (∀ w ∈ c.fr, alen c.sp.data.toList ≤ alen w.data.toList) && likeB c)))
structure CertMay (c : BCert) : Prop where
 k1 : 1 ≤ c.kind
 k7 : c.kind ≤ 7
 sg : c.sg / 8192 = 1
 sp : mayB c.sp.data.toList = true
 fr : setB c.fr = true
 f0 : 0 ≤ c.f
 f1 : c.f ≤ 4611686018427387904
 t0 : 0 ≤ c.t
 t1 : c.t ≤ 4611686018427387904
 n0 : 0 ≤ c.n
 n1 : c.n ≤ 4611686018427387904
 ft : c.f ≤ c.t
 len : ∀ w ∈ c.fr, alen c.sp.data.toList ≤ alen w.data.toList
theorem certB_may {c : BCert} (h : certB c = true) : CertMay c := by
 unfold certB formB numB at h
 simp only [Bool.and_eq_true, decide_eq_true_eq] at h
 obtain ⟨⟨h1, h2⟩, ⟨h3, h4, h5, ⟨h6, h7⟩, ⟨h8, h9⟩, h10, h11⟩, h12, h13, _⟩ := h
 exact ⟨h1, h2, h3, h4, h5, h6, h7, h8, h9, h10, h11, h12, h13⟩
end Go.Proofs.YthdfplafihmejaaGreat
