/-
  The order of words; words sorted, each once (the reference's Right), in plain Lean.
-/
import Derived.Test.YtjifdfhibkipnaaGreatSSet
import Derived.Sort.Walk0
namespace Go.Proofs.YtjifdfhibkipnaaGreat
open Go.RowKit Go.Maps

/-! the order of words -/
def lessW (a b : ByteArray) : Bool := lessB a.data.toList b.data.toList
theorem lessB_iff {a b : Wd} : lessB a b = true ↔ a.length < b.length ∨ a.length = b.length ∧ a < b := by
  unfold lessB
  by_cases h : a.length = b.length
  · rw [if_pos h, bytesLess_eq, decide_eq_true_iff]
    constructor
    · exact fun q => .inr ⟨h, q⟩
    · rintro (q | q)
      · omega
      · exact q.2
  · rw [if_neg h, decide_eq_true_iff]
    constructor
    · exact fun q => .inl q
    · rintro (q | q)
      · exact q
      · exact (h q.1).elim
theorem lessB_irrefl (a : Wd) : lessB a a = false := by
  rw [← Bool.not_eq_true, lessB_iff]
  rintro (h | h)
  · omega
  · exact List.lt_irrefl a h.2
theorem lessB_trans {a b c : Wd} (h : lessB a b = true) (k : lessB b c = true) : lessB a c = true := by
  rw [lessB_iff] at *
  rcases h with h | ⟨h, h2⟩ <;> rcases k with k | ⟨k, k2⟩
  · exact .inl (by omega)
  · exact .inl (by omega)
  · exact .inl (by omega)
  · exact .inr ⟨by omega, List.lt_trans h2 k2⟩
theorem lessB_total {a b : Wd} (h : lessB a b = false) (k : lessB b a = false) : a = b := by
  rw [← Bool.not_eq_true, lessB_iff] at h k
  have hl : a.length = b.length := by
    rcases Nat.lt_trichotomy a.length b.length with q | q | q
    · exact (h (.inl q)).elim
    · exact q
    · exact (k (.inl q)).elim
  exact List.le_antisymm (List.not_lt.1 fun q => k (.inr ⟨hl.symm, q⟩)) (List.not_lt.1 fun q => h (.inr ⟨hl, q⟩))
theorem lessB_or {a b c : Wd} (h : lessB a c = true) (k : lessB a b = false) : lessB b c = true := by
  cases q : lessB b a with
  | true => exact lessB_trans q h
  | false => rw [← lessB_total k q]; exact h
/-! Right -/
def afterB (last : Option ByteArray) (x : ByteArray) : Bool := match last with | none => true | some y => lessW y x
def betterB (best : Option ByteArray) (x : ByteArray) : Bool := match best with | none => true | some y => lessW x y
def pickB (last best : Option ByteArray) (x : ByteArray) : Option ByteArray := if (afterB last x && betterB best x) = true then some x else best
def nextB (last : Option ByteArray) (l : List ByteArray) : Option ByteArray := l.foldl (pickB last) none
theorem nextB_take {last : Option ByteArray} {l : List ByteArray} {k : Nat} {x : ByteArray} (hx : l[k]? = some x) : nextB last (l.take (k + 1)) = pickB last (nextB last (l.take k)) x := by
  unfold nextB
  rw [List.take_add_one, hx, List.foldl_append]; rfl
theorem next_go {last : Option ByteArray} : ∀ (l : List ByteArray) (best : Option ByteArray),
    (∀ y, l.foldl (pickB last) best = some y → (best = some y ∨ (y ∈ l ∧ afterB last y = true)) ∧ (∀ x ∈ l, afterB last x = true → lessW x y = false) ∧ ∀ z, best = some z → lessW z y = false) ∧
    (l.foldl (pickB last) best = none → best = none ∧ ∀ x ∈ l, afterB last x = false)
  | [], best => ⟨fun y h => ⟨.inl h, fun _ hx => (List.not_mem_nil hx).elim, fun z hz => by rw [show best = some y from h] at hz; cases hz; exact lessB_irrefl _⟩, fun h => ⟨h, fun _ hx => (List.not_mem_nil hx).elim⟩⟩
  | a :: l, best => by
    rw [List.foldl_cons]
    obtain ⟨h1, h2⟩ := next_go l (pickB last best a)
    by_cases hp : (afterB last a && betterB best a) = true
    · have e : pickB last best a = some a := if_pos hp
      rw [Bool.and_eq_true] at hp
      refine ⟨fun y hy => ?_, fun hn => ?_⟩
      · obtain ⟨q1, q2, q3⟩ := h1 y hy
        have hay := q3 a e
        refine ⟨?_, fun x hx hax => ?_, fun z hz => ?_⟩
        · rcases q1 with q | q
          · rw [e] at q; cases q
            exact .inr ⟨List.mem_cons_self, hp.1⟩
          · exact .inr ⟨List.mem_cons_of_mem _ q.1, q.2⟩
        · rcases List.mem_cons.1 hx with rfl | hx
          · exact hay
          · exact q2 x hx hax
        · subst hz
          have hb : lessW a z = true := hp.2
          rw [← Bool.not_eq_true]
          intro q
          rw [show lessW a y = true from lessB_trans hb q] at hay
          cases hay
      · have := (h2 hn).1
        rw [e] at this; cases this
    · have e : pickB last best a = best := if_neg hp
      rw [e] at h1 h2 ⊢
      refine ⟨fun y hy => ?_, fun hn => ?_⟩
      · obtain ⟨q1, q2, q3⟩ := h1 y hy
        refine ⟨?_, fun x hx hax => ?_, q3⟩
        · rcases q1 with q | q
          · exact .inl q
          · exact .inr ⟨List.mem_cons_of_mem _ q.1, q.2⟩
        · rcases List.mem_cons.1 hx with rfl | hx
          · cases best with
            | none => exact (hp (by rw [hax]; rfl)).elim
            | some z =>
              have hz : lessW x z = false := by
                rw [← Bool.not_eq_true]; intro q
                exact hp (by rw [hax]; exact q)
              have hzy := q3 z rfl
              rw [← Bool.not_eq_true]; intro q
              rw [show lessW z y = true from lessB_or q hz] at hzy
              cases hzy
          · exact q2 x hx hax
      · obtain ⟨q1, q2⟩ := h2 hn
        refine ⟨q1, fun x hx => ?_⟩
        rcases List.mem_cons.1 hx with rfl | hx
        · subst q1
          rw [← Bool.not_eq_true]; intro q
          exact hp (by rw [q]; rfl)
        · exact q2 x hx
/-- Words that were taken so far, the least ones, rising. -/
structure RightI (l out : List ByteArray) : Prop where
  sub : ∀ x ∈ out, x ∈ l
  srt : out.Pairwise fun a b => lessW a b = true
  rest : ∀ x ∈ l, x ∈ out ∨ afterB out.getLast? x = true
theorem rightI_nil (l : List ByteArray) : RightI l [] := ⟨fun _ hx => (List.not_mem_nil hx).elim, List.Pairwise.nil, fun _ _ => .inr rfl⟩
theorem RightI.nodup {l out : List ByteArray} (h : RightI l out) : out.Nodup := h.srt.imp (fun {a b} q e => by subst e; rw [show lessW a a = false from lessB_irrefl _] at q; cases q)
theorem RightI.le {l out : List ByteArray} (h : RightI l out) : out.length ≤ l.length := nodup_le h.nodup h.sub
theorem after_all {out : List ByteArray} {y : ByteArray} (hs : out.Pairwise fun a b => lessW a b = true) (h : afterB out.getLast? y = true) : ∀ x ∈ out, lessW x y = true := by
  rcases List.eq_nil_or_concat out with rfl | ⟨i, z, rfl⟩
  · intro x hx; cases hx
  · rw [List.concat_eq_append] at *
    rw [List.getLast?_append] at h
    have hz : lessW z y = true := h
    intro x hx
    rcases List.mem_append.1 hx with q | q
    · exact lessB_trans ((List.pairwise_append.1 hs).2.2 x q z (by simp)) hz
    · rw [List.mem_singleton] at q; subst q; exact hz
theorem RightI.next {l out : List ByteArray} (h : RightI l out) {y : ByteArray} (hn : nextB out.getLast? l = some y) : RightI l (out ++ [y]) := by
  obtain ⟨q1, q2, _⟩ := (next_go l none).1 y hn
  have q : y ∈ l ∧ afterB out.getLast? y = true := by
    rcases q1 with q | q
    · cases q
    · exact q
  have ha := after_all h.srt q.2
  refine ⟨fun x hx => ?_, ?_, fun x hx => ?_⟩
  · rcases List.mem_append.1 hx with e | e
    · exact h.sub x e
    · rw [List.mem_singleton] at e; rw [e]; exact q.1
  · rw [List.pairwise_append]
    exact ⟨h.srt, List.pairwise_singleton _ _, fun x hx z hz => by rw [List.mem_singleton] at hz; rw [hz]; exact ha x hx⟩
  · rw [List.getLast?_append]
    rcases h.rest x hx with e | e
    · exact .inl (List.mem_append_left _ e)
    · have hxy := q2 x hx e
      cases hyx : lessW y x with
      | true => exact .inr hyx
      | false =>
        have : x = y := by
          have := lessB_total hxy hyx
          cases x; cases y
          simp only [ByteArray.mk.injEq]
          exact Array.toList_inj.1 this
        rw [this]
        exact .inl (by simp)
theorem RightI.done {l out : List ByteArray} (h : RightI l out) (hn : nextB out.getLast? l = none) : ∀ x ∈ l, x ∈ out := by
  intro x hx
  rcases h.rest x hx with e | e
  · exact e
  · rw [((next_go l none).2 hn).2 x hx] at e; cases e
theorem RightI.more {l out : List ByteArray} (h : RightI l out) {y : ByteArray} (hn : nextB out.getLast? l = some y) : out.length < l.length := by
  have := (h.next hn).le
  rw [List.length_append, List.length_singleton] at this
  omega
theorem right_set {l out : List ByteArray} (h : RightI l out) (hm : ∀ x ∈ l, mayB x.data.toList = true) (h1 : 1 ≤ out.length) (h2 : out.length ≤ 16) : setB out = true := by
  refine decide_eq_true ⟨by rw [lists_len]; exact h1, by rw [lists_len]; exact h2, fun j hj => ?_⟩
  rw [lists_len] at hj
  obtain ⟨x, hx⟩ : ∃ x, out[j]? = some x := ⟨_, List.getElem?_eq_getElem hj⟩
  refine ⟨by rw [lists_getB hx]; exact hm x (h.sub x (List.mem_of_getElem? hx)), fun h0 => ?_⟩
  obtain ⟨y, hy⟩ : ∃ y, out[j - 1]? = some y := ⟨_, List.getElem?_eq_getElem (by omega)⟩
  rw [lists_getB hx, lists_getB hy]
  have := List.pairwise_iff_getElem.1 h.srt (j - 1) j (by omega) hj (by omega)
  rw [(List.getElem?_eq_some_iff.1 hx).2, (List.getElem?_eq_some_iff.1 hy).2] at this
  exact this
end Go.Proofs.YtjifdfhibkipnaaGreat
