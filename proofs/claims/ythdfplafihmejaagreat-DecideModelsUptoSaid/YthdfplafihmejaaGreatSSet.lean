/-
  Sets of words: Less, May, Has, Equal, of the program and of the reference.
-/
import Derived.Test.YthdfplafihmejaaGreatMMach1
namespace Go.Proofs.YthdfplafihmejaaGreat
open Go.RowKit Go.Maps

/-- A word is less than another one: shorter, or as long and less by bytes. -/
def lessB (a b : Wd) : Bool := if a.length = b.length then Op.bytesLess a b else decide (a.length < b.length)
theorem wless_any (w : World) (a b : ByteArray) :
  Calls Tryz.prog 87 #[.string a, .string b] w fun e w' => e = .returned (.bool (lessB a.data.toList b.data.toList)) ∧ w = w' := by
 by_cases h : a.size = b.size
 ·have RES := Lib.hid (show lessB a.data.toList b.data.toList = Op.bytesLess a.toList b.toList by
   unfold lessB
   rw [size_list, size_list, if_pos h, ByteArray.toList_eq, ByteArray.toList_eq])
  have hne : ((a.size : Int) != (b.size : Int)) = false := by rw [bne_eq_false_iff_eq]; omega
  have hne2 : ((a.size : Int) == (b.size : Int)) = true := by rw [beq_iff_eq]; omega
  clear h
  go_enter Tryz.func87, Tryz.ntmps87
  go_wp2
  go_ret
  exact ⟨by rw [RES.out]; rfl, rfl⟩
 ·have RES := Lib.hid (show lessB a.data.toList b.data.toList = decide (a.size < b.size) by
   unfold lessB
   rw [size_list, size_list, if_neg h])
  have hne : ((a.size : Int) != (b.size : Int)) = true := by rw [bne_iff_ne]; omega
  have hne2 : ((a.size : Int) == (b.size : Int)) = false := by rw [beq_eq_false_iff_ne]; omega
  clear h
  go_enter Tryz.func87, Tryz.ntmps87
  go_wp2
  go_ret
  exact ⟨by rw [RES.out]; rfl, rfl⟩
theorem less_step {a b : Wd} {i : Nat} {x y : UInt8} (hx : a[i]? = some x) (hy : b[i]? = some y) : Op.bytesLess (a.drop i) (b.drop i) = if x = y then Op.bytesLess (a.drop (i + 1)) (b.drop (i + 1)) else decide (x.toNat < y.toNat) := by
 have ha := (List.getElem?_eq_some_iff.1 hx)
 have hb := (List.getElem?_eq_some_iff.1 hy)
 obtain ⟨ha1, ha2⟩ := ha
 obtain ⟨hb1, hb2⟩ := hb
 rw [List.drop_eq_getElem_cons ha1, List.drop_eq_getElem_cons hb1, ha2, hb2]
 show (decide (x < y) || (x == y && Op.bytesLess _ _)) = _
 by_cases h : x = y
 ·subst h
  rw [if_pos rfl]
  simp
 ·rw [if_neg h]
  rw [beq_eq_false_iff_ne.2 h, Bool.false_and, Bool.or_false]
  rfl
theorem byte_at {s : ByteArray} {i : Nat} (h : i < s.size) : s.data.toList[i]? = some s[i] := by
 rw [List.getElem?_eq_getElem (by rw [size_list]; exact h)]; rfl
/-- A set may be: some words, not too many, each may be, rising. -/
def SetMay (l : List Wd) : Prop := 1 ≤ l.length ∧ l.length ≤ 16 ∧ ∀ j, j < l.length → mayB (l.getD j []) = true ∧ (0 < j → lessB (l.getD (j - 1) []) (l.getD j []) = true)
instance (l : List Wd) : Decidable (SetMay l) := by unfold SetMay; infer_instance
def setB (l : List ByteArray) : Bool := decide (SetMay (lists l))
theorem lists_getB {l : List ByteArray} {j : Nat} {x : ByteArray} (h : l[j]? = some x) : (lists l).getD j [] = x.data.toList := by
 unfold lists
 rw [List.getD_eq_getElem?_getD, List.getElem?_map, h]; rfl
theorem lists_len (l : List ByteArray) : (lists l).length = l.length := by unfold lists; rw [List.length_map]
theorem drawn_cell {w w' : World} {p : Addr} {v : Value} (h : Drawn w w') (hc : w.cell? p = some v) : w'.cell? p = some v := by
 obtain ⟨n, rfl⟩ := h; exact hc
set_option maxHeartbeats 1000000 in
set_option maxRecDepth 100000 in
theorem setMay_any (w : World) (v : Value) (G : Nat → Prop) (l : List ByteArray) (hv : WordsAt w v G l) :
  Calls Tryz.prog 58 #[v] w fun e w' => e = .returned (.bool (setB l)) ∧ Drawn w w' := by
 obtain ⟨la, cap, rfl, hl0, hcl⟩ := hv
 have HCL := Lib.hid hcl
 unfold maxLen at hl0
 clear hcl
 have NO := Lib.hid (show ∀ h : ¬ SetMay (lists l), setB l = false from fun h => decide_eq_false h)
 by_cases h1 : l.length < 1
 ·have R := Lib.hid (NO.out (fun q => by have := q.1; rw [lists_len] at this; omega))
  have g1 : decide ((l.length : Int) < 1) = true := by rw [decide_eq_true_eq]; omega
  go_enter Tryz.func58, Tryz.ntmps58
  go_wp2
  go_ret
  exact ⟨by rw [R.out]; rfl, Drawn.refl _⟩
 have g1 : decide ((l.length : Int) < 1) = false := by rw [decide_eq_false_iff_not]; omega
 by_cases h2 : 16 < l.length
 ·have R := Lib.hid (NO.out (fun q => by have := q.2.1; rw [lists_len] at this; omega))
  have g2 : decide (16 < (l.length : Int)) = true := by rw [decide_eq_true_eq]; omega
  go_enter Tryz.func58, Tryz.ntmps58
  go_wp2
  go_ret
  exact ⟨by rw [R.out]; rfl, Drawn.refl _⟩
 have g2 : decide (16 < (l.length : Int)) = false := by rw [decide_eq_false_iff_not]; omega
 go_enter Tryz.func58, Tryz.ntmps58
 go_wp2
 go_loopw [15] (fun iv wr => ∃ k : Nat, k ≤ l.length ∧ iv = .int .i64 k ∧ Hid ((∀ j, j < k → mayB ((lists l).getD j []) = true ∧ (0 < j → lessB ((lists l).getD (j - 1) []) ((lists l).getD j []) = true)) ∧ Drawn w wr)) (fun iv _ => l.length - (intOf iv).toNat)
 case atStart => exact ⟨0, by omega, rfl, Lib.hid ⟨fun j hj => by omega, Drawn.refl _⟩⟩
 case round =>
  obtain ⟨k, hk, rfl, HI⟩ := hrel
  by_cases hlt : k < l.length
  ·obtain ⟨x, hx⟩ : ∃ x, l[k]? = some x := ⟨_, List.getElem?_eq_getElem hlt⟩
   obtain ⟨lb, lo, rfl, _, c0', hxm⟩ := HCL.out k x hx
   have c0 := drawn_cell HI.out.2 c0'
   have GX := Lib.hid (lists_getB hx)
   have DR := Lib.hid HI.out.2
   have PRE := Lib.hid HI.out.1
   have MA := Lib.hid (wmay_q wr x hxm)
   clear c0' HI hx
   cases hm : mayB x.data.toList with
   | false =>
    rw [hm] at MA
    have R := Lib.hid (NO.out (fun q => by have := (q.2.2 k (by rw [lists_len]; exact hlt)).1; rw [GX.out, hm] at this; cases this))
    clear hm
    go_wp2_with fail
    (with_reducible refine (MA.out).mono ?_)
    rintro e w1 ⟨rfl, d1⟩
    go_wp2
    go_ret
    exact ⟨by rw [R.out]; rfl, DR.out.trans d1⟩
   | true =>
    rw [hm] at MA
    by_cases hk0 : k = 0
    ·have g3 : decide (0 < (k : Int)) = false := by rw [decide_eq_false_iff_not]; omega
     have g4 : decide (0 < k) = false := by rw [decide_eq_false_iff_not]; omega
     have PR := Lib.hid (show ∀ j, j < k + 1 → mayB ((lists l).getD j []) = true ∧ (0 < j → lessB ((lists l).getD (j - 1) []) ((lists l).getD j []) = true) from fun j hj => by
      obtain rfl : j = k := by omega
      exact ⟨by rw [GX.out]; exact hm, fun h => by omega⟩)
     clear hm hk0
     go_wp2_with fail
     (with_reducible refine (MA.out).mono ?_)
     rintro e w1 ⟨rfl, d1⟩
     have D1 := Lib.hid (DR.out.trans d1)
     clear d1
     go_wp2
     go_roundw
     case rel => exact ⟨k + 1, by omega, by go_num, Lib.hid ⟨PR.out, D1.out⟩⟩
     case measure => simp [intOf]; omega
    ·obtain ⟨y, hy⟩ : ∃ y, l[k - 1]? = some y := ⟨_, List.getElem?_eq_getElem (by omega)⟩
     obtain ⟨lb', lo', e1, _, c1', hym⟩ := HCL.out (k - 1) y hy
     cases e1
     have GY := Lib.hid (lists_getB hy)
     obtain ⟨n, hn⟩ : ∃ n, n = k - 1 := ⟨_, rfl⟩
     rw [← hn] at c1' GY
     have c1 := drawn_cell DR.out c1'
     have g3 : decide (0 < (k : Int)) = true := by rw [decide_eq_true_eq]; omega
     have g4 : decide (0 < k) = true := by rw [decide_eq_true_eq]; omega
     have hnk : (k : Int) - 1 = (n : Int) := by omega
     have hnl : n < l.length := by omega
     have HN := Lib.hid hn
     have LS := Lib.hid (fun w => wless_any w y x)
     have HM := Lib.hid hm
     clear hy hn c1' hm
     cases hl : lessB y.data.toList x.data.toList with
     | false =>
      rw [hl] at LS
      have R := Lib.hid (NO.out (fun q => by have := (q.2.2 k (by rw [lists_len]; exact hlt)).2 (by omega); rw [GX.out, ← HN.out, GY.out, hl] at this; cases this))
      clear hl
      go_wp2_with fail
      (with_reducible refine (MA.out).mono ?_)
      rintro e w1 ⟨rfl, d1⟩
      have c2 := drawn_cell d1 c1
      have D1 := Lib.hid (DR.out.trans d1)
      clear d1
      go_wp2_with fail
      (with_reducible refine (LS.out _).mono ?_)
      rintro e w2 ⟨rfl, rfl⟩
      go_wp2
      go_ret
      exact ⟨by rw [R.out]; rfl, D1.out⟩
     | true =>
      rw [hl] at LS
      have PR := Lib.hid (show ∀ j, j < k + 1 → mayB ((lists l).getD j []) = true ∧ (0 < j → lessB ((lists l).getD (j - 1) []) ((lists l).getD j []) = true) from fun j hj => by
       rcases Nat.lt_or_ge j k with q | q
       ·exact PRE.out j q
       ·obtain rfl : j = k := by omega
        exact ⟨by rw [GX.out]; exact HM.out, fun _ => by rw [GX.out, ← HN.out, GY.out]; exact hl⟩)
      clear hl
      go_wp2_with fail
      (with_reducible refine (MA.out).mono ?_)
      rintro e w1 ⟨rfl, d1⟩
      have c2 := drawn_cell d1 c1
      have D1 := Lib.hid (DR.out.trans d1)
      clear d1
      go_wp2_with fail
      (with_reducible refine (LS.out _).mono ?_)
      rintro e w2 ⟨rfl, rfl⟩
      go_wp2
      go_roundw
      case rel => exact ⟨k + 1, by omega, by go_num, Lib.hid ⟨PR.out, D1.out⟩⟩
      case measure => simp [intOf]; omega
  ·obtain rfl : k = l.length := by omega
   have R := Lib.hid (show setB l = true from decide_eq_true ⟨by rw [lists_len]; omega, by rw [lists_len]; omega, fun j hj => HI.out.1 j (by rw [lists_len] at hj; exact hj)⟩)
   go_wp2
   go_ret
   exact ⟨by rw [R.out]; rfl, HI.out.2⟩
instance : LawfulBEq ByteArray where
 eq_of_beq {a b} h := ByteArray.ext (eq_of_beq (show (a.data == b.data) = true from h))
 rfl {a} := (beq_self_eq_true a.data : (a.data == a.data) = true)
theorem str_eq (a b : ByteArray) : (a.toList == b.toList) = decide (a = b) := by
 rw [ByteArray.toList_eq, ByteArray.toList_eq, Bool.eq_iff_iff, beq_iff_eq, decide_eq_true_eq]
 exact ⟨fun h => ByteArray.ext (Array.ext' h), fun h => by rw [h]⟩
theorem str_ne (a b : ByteArray) : (a.toList != b.toList) = !decide (a = b) := by unfold bne; rw [str_eq]
/-- Where a word stands in a list; below 0: nowhere. -/
def idxI (l : List ByteArray) (x : ByteArray) : Int := if x ∈ l then (l.idxOf x : Nat) else -1
theorem idx_at {α : Type} [BEq α] [LawfulBEq α] {l : List α} {x : α} {k : Nat} (h : l[k]? = some x) (hn : ∀ j, j < k → l[j]? ≠ some x) : x ∈ l ∧ l.idxOf x = k := by
 have hm := List.mem_of_getElem? h
 have h1 := List.idxOf_lt_length_of_mem hm
 have h2 := List.getElem_idxOf h1
 refine ⟨hm, ?_⟩
 rcases Nat.lt_trichotomy (l.idxOf x) k with q | q | q
 ·exact absurd (by rw [List.getElem?_eq_getElem h1, h2]) (hn _ q)
 ·exact q
 ·have hk := (List.getElem?_eq_some_iff.1 h).1
  have := List.not_of_lt_findIdx (p := (· == x)) q
  rw [List.getElem?_eq_getElem hk] at h
  rw [Option.some.inj h] at this
  simp at this
theorem idx_none {α : Type} {l : List α} {x : α} (hn : ∀ j, j < l.length → l[j]? ≠ some x) : x ∉ l := by
 intro h
 obtain ⟨j, hj⟩ := List.mem_iff_getElem?.1 h
 exact hn j (List.getElem?_eq_some_iff.1 hj).1 hj
def hasB (l : List ByteArray) (x : ByteArray) : Bool := decide (x ∈ l)
/-- Are lists of words the same? -/
def sameB (l m : List ByteArray) : Bool := decide (l = m)
theorem same_of {l m : List ByteArray} (hl : l.length = m.length) (h : ∀ j, j < l.length → l[j]? = m[j]?) : l = m := by
 apply List.ext_getElem? 
 intro j
 rcases Nat.lt_or_ge j l.length with q | q
 ·exact h j q
 ·rw [List.getElem?_eq_none q, List.getElem?_eq_none (by omega)]
end Go.Proofs.YthdfplafihmejaaGreat
