/-
  Package set: Of: words sorted, each once (slices.SortFunc and Compact by the shelf's contracts).
-/
import Derived.Test.YthdfplafihmejaaGreatCSet
import Derived.Test.YthdfplafihmejaaGreatSAt
import Derived.Shelf.SlSortCmp.Whole1
import Derived.Shelf.SlicesE.Compact
import Derived.Shelf.SlGeneric
import Derived.Shelf.Lay
import Derived.Ground.SlsfProg
import Derived.Ground.SlgnProg
namespace Go.Proofs
open Go.Shelf
shelf_lay_g SlLaysF.n6 Slsf 6 at Tryz 150 as Tryz.laysSortF
shelf_lay_g SlLaysE.n43 Slgn 43 at Tryz 152 as Tryz.laysCompact
end Go.Proofs
namespace Go.Proofs.YthdfplafihmejaaGreat
open Go.RowKit Go.Maps Go.Shelf Go.Lib Go.Sort

theorem wcells_at {l : List ByteArray} {j : Nat} {x : ByteArray} (h : l[j]? = some x) : (wcells l)[j]? = some (.string x) := by
 unfold wcells
 rw [List.getElem?_map, h]; rfl
def cmpI (a b : ByteArray) : Int := if lessB a.data.toList b.data.toList = true then -1 else if lessB b.data.toList a.data.toList = true then 1 else 0
theorem compare_any (w : World) (a b : ByteArray) : Calls Tryz.prog 151 #[.string a, .string b] w fun e w' => e = .returned (.int .i64 (cmpI a b)) ∧ w = w' := by
 have L1 := Lib.hid (wless_any w a b)
 have L2 := Lib.hid (wless_any w b a)
 have R := Lib.hid (show cmpI a b = if lessB a.data.toList b.data.toList = true then -1 else if lessB b.data.toList a.data.toList = true then 1 else 0 from rfl)
 generalize lessB a.data.toList b.data.toList = p at *
 generalize lessB b.data.toList a.data.toList = q at *
 go_enter Tryz.func151, Tryz.ntmps151
 cases p with
 | true =>
  go_wp2_with fail
  (with_reducible refine (L1.out).mono ?_)
  rintro e w2 ⟨rfl, rfl⟩
  go_wp2
  go_ret
  exact ⟨by rw [R.out]; rfl, rfl⟩
 | false =>
  go_wp2_with fail
  (with_reducible refine (L1.out).mono ?_)
  rintro e w2 ⟨rfl, rfl⟩
  go_wp2_with fail
  (with_reducible refine (L2.out).mono ?_)
  rintro e w3 ⟨rfl, rfl⟩
  cases q
  all_goals
   go_wp2
   go_ret
   exact ⟨by rw [R.out]; rfl, rfl⟩
theorem cmpI_lt (a b : ByteArray) : ltOf cmpI a b = lessW a b := by
 unfold ltOf cmpI lessW
 cases lessB a.data.toList b.data.toList with
 | true => rfl
 | false => cases lessB b.data.toList a.data.toList <;> rfl
theorem cmpI_swo : SWO (ltOf cmpI) where
 irrefl x := by rw [cmpI_lt]; exact lessB_irrefl _
 trans x y z h1 h2 := by rw [cmpI_lt] at *; exact lessB_trans h1 h2
 ntrans x y z h1 h2 := by
  rw [cmpI_lt] at *
  rw [← Bool.not_eq_true]
  intro h
  cases q : lessW y x with
  | true =>
   have := lessB_trans q h
   rw [show lessB y.data.toList z.data.toList = false from h2] at this
   cases this
  | false =>
   have e := bytes_ext (lessB_total (show lessB x.data.toList y.data.toList = false from h1) q)
   subst e
   rw [h2] at h; cases h
theorem sortRow {w : World} {g n : Nat} {e : TypeId} {cur : Array Value} (ys : List ByteArray) (hg : w.heap[g]? = some (.cells cur e (0, 0))) (hy : ys.length = n) (hc : n ≤ cur.size) (q : Nat) (os : Array Obj) :
  (grow (putRow Value.string (Sort.ahead w q) g 0 ys.toArray) os).heap[g]? = some (.cells ((ys.map Value.string) ++ cur.toList.drop n).toArray e (0, 0)) ∧ Chg (· = g) w (grow (putRow Value.string (Sort.ahead w q) g 0 ys.toArray) os) := by
 have hlt := lt_of_obj hg
 have h1 : (putRow Value.string (Sort.ahead w q) g 0 ys.toArray).heap[g]? = some (.cells (putCells Value.string 0 ys.toArray cur) e (0, 0)) := by
  show (w.heap.modify g (onCells _))[g]? = _
  rw [Array.getElem?_modify, if_pos rfl, hg]; rfl
 have h2 : putCells Value.string 0 ys.toArray cur = ((ys.map Value.string) ++ cur.toList.drop n).toArray := by
  apply Array.ext
  ·simp [putCells]; omega
  ·intro i h3 h4
   simp only [putCells, Array.size_mapIdx] at h3
   simp only [putCells, Array.getElem_mapIdx, List.getElem_toArray]
   by_cases hi : i < n
   ·rw [if_pos ⟨by omega, by simp; omega⟩, List.getElem_append_left (by simp; omega)]
    simp [hy, hi]
   ·rw [if_neg (by simp; omega), List.getElem_append_right (by simp; omega)]
    simp [hy]
    congr 1; omega
 refine ⟨?_, ?_⟩
 ·rw [heap_grow_old _ os (by rw [size_putRow]; exact hlt), h1, h2]
 ·have hz := size_putRow Value.string (Sort.ahead w q) g 0 ys.toArray
  refine ⟨rfl, rfl, rfl, by rw [grow, Array.size_append, hz]; show w.heap.size ≤ w.heap.size + os.size; omega, fun k hk hne => ?_⟩
  rw [heap_grow_old _ os (by rw [size_putRow]; exact hk)]
  show (w.heap.modify g (onCells _))[k]? = _
  rw [Array.getElem?_modify, if_neg (fun e => hne e.symm)]
/-- Words in a row of the call's own. -/
structure WRow (w : World) (base g cap : Nat) (l : List ByteArray) : Prop where
 row : ∃ cs, w.heap[g]? = some (.cells cs 57 (0, 0)) ∧ cs.size = cap ∧ ∀ (j : Nat) x, l[j]? = some x → cs[j]? = some (.string x)
 len : l.length ≤ cap
 max : cap ≤ maxLen
 base : base ≤ g
theorem wrow_own {w : World} {base g cap : Nat} {l : List ByteArray} (h : w.ownsRow base 57 1 (.slice (some ⟨g, 0, none⟩) l.length cap) l.length (wcells l)) : WRow w base g cap l := by
 have h0 := h
 obtain ⟨_, ⟨q, _⟩ | ⟨g', cap', cur, q, hb, hh, h1, h2, h3, h4⟩⟩ := h
 ·cases q
 ·cases q
  refine ⟨⟨cur, hh, by omega, fun j x hj => ?_⟩, h1, h2, hb⟩
  have hl := (List.getElem?_eq_some_iff.1 hj).1
  have := h0.cellAt j (by omega)
  rw [wcells_at hj] at this
  have hc : j < cur.size := by omega
  have e2 : w.cell? ⟨g, j, none⟩ = some cur[j] := cell_of hh (Array.getElem?_eq_getElem hc)
  rw [e2] at this
  rw [Array.getElem?_eq_getElem hc]; exact this
theorem WRow.holds {w : World} {base g cap : Nat} {l : List ByteArray} (h : WRow w base g cap l) : Holds Value.string w g 0 l.toArray := by
 obtain ⟨cs, h1, h2, h3⟩ := h.row
 intro j hj
 have hj : j < l.length := by simpa using hj
 refine ⟨?_, frozen_of h1⟩
 rw [Nat.zero_add, cell_of h1 (h3 j _ (List.getElem?_eq_getElem hj)), getElem!_pos _ j (by simpa using hj)]
 simp
theorem WRow.words {w : World} {base g cap n : Nat} {l : List ByteArray} (h : WRow w base g cap l) (hs : ∀ x ∈ l, x.size ≤ maxLen) (hn : n = l.length) (c : Nat) : WordsAt w (.slice (some ⟨g, 0, none⟩) n c) (fun k => k = g) l := by
 obtain ⟨cs, h1, h2, h3⟩ := h.row
 subst hn
 exact ⟨_, c, rfl, Nat.le_trans h.len h.max, fun j x hj => ⟨g, 0, rfl, rfl, by rw [Nat.zero_add]; exact cell_of h1 (h3 j x hj), hs x (List.mem_of_getElem? hj)⟩⟩
theorem WRow.put {w : World} {base g cap : Nat} {l : List ByteArray} (h : WRow w base g cap l) (ys : List ByteArray) (hy : ys.length = l.length) (m : List ByteArray) (hm : ∀ (j : Nat) x, m[j]? = some x → ys[j]? = some x) (hml : m.length ≤ ys.length) (q : Nat) (os : Array Obj) :
  WRow (grow (putRow Value.string (Sort.ahead w q) g 0 ys.toArray) os) base g cap m ∧ Chg (· = g) w (grow (putRow Value.string (Sort.ahead w q) g 0 ys.toArray) os) := by
 obtain ⟨cs, h1, h2, h3⟩ := h.row
 have hl := h.len
 obtain ⟨r1, r2⟩ := sortRow ys h1 rfl (by omega) q os
 refine ⟨⟨⟨_, r1, by simp; omega, fun j x hj => ?_⟩, by omega, h.max, h.base⟩, r2⟩
 have hx := hm j x hj
 have hjl := (List.getElem?_eq_some_iff.1 hx).1
 rw [List.getElem?_toArray, List.getElem?_append_left (by simpa using hjl), List.getElem?_map, hx]; rfl
/-! words sorted, then each once -/
theorem compact_go {d : Array ByteArray} (hs : SortedIn (ltOf cmpI) 0 d.size d) : ∀ k, k ≤ d.size → (compactUpTo d k).Pairwise (fun a b => lessW a b = true) ∧ (∀ x, x ∈ compactUpTo d k ↔ ∃ j, j < k ∧ d[j]! = x)
 | 0, _ => ⟨by simp [compactUpTo], fun x => by simp [compactUpTo]⟩
 | k + 1, hk => by
  obtain ⟨h1, h2⟩ := compact_go hs k (by omega)
  rw [compactUpTo_succ]
  have le : ∀ i j, i ≤ j → j < d.size → lessW d[j]! d[i]! = false := fun i j hij hj => by
   rcases Nat.lt_or_ge i j with q | q
   ·have := hs i j (Nat.zero_le _) q hj
    rwa [cmpI_lt] at this
   ·obtain rfl : i = j := by omega
    exact lessB_irrefl _
  cases hkp : keeps d k with
  | true =>
   rw [if_pos rfl]
   refine ⟨?_, fun x => ?_⟩
   ·rw [List.pairwise_append]
    refine ⟨h1, List.pairwise_singleton _ _, fun x hx y hy => ?_⟩
    rw [List.mem_singleton] at hy
    subst hy
    obtain ⟨j, hj, rfl⟩ := (h2 x).1 hx
    have hkk : k = 0 ∨ d[k]! ≠ d[k - 1]! := of_decide_eq_true hkp
    have hne : d[k]! ≠ d[k - 1]! := by
     rcases hkk with q | q
     ·omega
     ·exact q
    cases q : lessW d[j]! d[k]! with
    | true => rfl
    | false =>
     exfalso
     have a1 := le j (k - 1) (by omega) (by omega)
     have a2 := le (k - 1) k (by omega) (by omega)
     apply hne
     cases r : lessW d[k - 1]! d[k]! with
     | false => exact bytes_ext (lessB_total a2 r)
     | true =>
      have : lessW d[j]! d[k]! = true := by
       cases s : lessW d[j]! d[k - 1]! with
       | true => exact lessB_trans s r
       | false =>
        have e := bytes_ext (lessB_total s a1)
        rw [e]; exact r
      rw [q] at this; cases this
   ·rw [List.mem_append, h2, List.mem_singleton]
    constructor
    ·rintro (⟨j, hj, e⟩ | e)
     ·exact ⟨j, by omega, e⟩
     ·exact ⟨k, by omega, e.symm⟩
    ·rintro ⟨j, hj, e⟩
     rcases Nat.lt_or_ge j k with q | q
     ·exact .inl ⟨j, q, e⟩
     ·obtain rfl : j = k := by omega
      exact .inr e.symm
  | false =>
   rw [if_neg (by simp), List.append_nil]
   have hkk : ¬ (k = 0 ∨ d[k]! ≠ d[k - 1]!) := of_decide_eq_false hkp
   have h0 : k ≠ 0 := fun e => hkk (.inl e)
   have he : d[k]! = d[k - 1]! := Classical.byContradiction fun q => hkk (.inr q)
   refine ⟨h1, fun x => ?_⟩
   rw [h2]
   constructor
   ·rintro ⟨j, hj, e⟩
    exact ⟨j, by omega, e⟩
   ·rintro ⟨j, hj, e⟩
    rcases Nat.lt_or_ge j k with q | q
    ·exact ⟨j, q, e⟩
    ·obtain rfl : j = k := by omega
     exact ⟨j - 1, by omega, by rw [← he]; exact e⟩
theorem perm_toList {d d' : Array ByteArray} (h : PermIn 0 d.size d d') : d'.toList.Perm d.toList := by
 obtain ⟨h1, _, h3⟩ := h
 have e1 : d'.extract 0 d.size = d' := by rw [← h1]; simp
 have e2 : d.extract 0 d.size = d := by simp
 rwa [e1, e2] at h3
theorem compact_mem {d : Array ByteArray} (hs : SortedIn (ltOf cmpI) 0 d.size d) (x : ByteArray) : x ∈ compactUpTo d d.size ↔ x ∈ d.toList := by
 rw [(compact_go hs d.size (Nat.le_refl _)).2]
 constructor
 ·rintro ⟨j, hj, rfl⟩
  rw [getElem!_pos _ j hj]
  exact List.mem_of_getElem? (i := j) (by simp [hj])
 ·intro h
  obtain ⟨j, hj⟩ := List.mem_iff_getElem?.1 h
  have hl := (List.getElem?_eq_some_iff.1 hj).1
  have hl : j < d.size := by simpa using hl
  refine ⟨j, hl, ?_⟩
  rw [getElem!_pos _ j hl]
  simpa [hl] using hj
/-! the walk -/
theorem wclone_any (w : World) (g o n c : Nat) (G : Nat → Prop) (l : List ByteArray) (hv : WordsAt w (.slice (some ⟨g, o, none⟩) n c) G l) (hl : l.length ≤ 1000) :
  Calls Tryz.prog 149 #[.slice (some ⟨g, o, none⟩) n c] w fun e w' => ∃ v, e = .returned v ∧ w'.ownsRow w.heap.size 57 1 v l.length (wcells l) ∧ Chg (fun _ => False) w w' := by
 have SRC := Lib.hid (words_src hv)
 obtain ⟨la, cap, e, hl0, _⟩ := hv
 cases e
 have EQN := fun w => Lib.run_eql_slice_nil (P := Tryz.prog) w 25 _ (some ⟨g, o, none⟩) l.length c 0 0 Tryz.underlying25
 go_enter Tryz.func149, Tryz.ntmps149
 go_wp2_with (at_builtin; refine wpList_pushS rfl (.tmp 5) (.tmp 6) 25 rfl 57 1 16 Tryz.underlying25 Tryz.elemWord w.heap.size _ 0 [] rfl (own_empty _ _ _ _ (Nat.le_refl _)) (some ⟨g, o, none⟩) l.length c (wcells l) rfl ?a1 ?a2 ?a3 ?a4 ?a5 ?a6 ?a7 ?nx1)
 case a1 => unfold wcells; rw [List.length_map]; omega
 case a2 =>
  intro j u hj
  obtain ⟨g', o', e, c1⟩ := SRC.out j u hj
  exact ⟨g', o', e, cell_chg (chg_alloc (fun _ => False) w _) (fun e => e) c1⟩
 case a3 => intro e; cases e
 case a4 => exact wcells_one l
 case a5 => omega
 case a6 => unfold maxLen; omega
 case a7 => simp
 intro v8 w8 o8 g8
 obtain ⟨a8, c8, rfl⟩ := own_shape o8
 have k8 : Chg (fun _ => False) w w8 := (chg_alloc (fun _ => False) w (.cells #[] 57)).next (Chg.of_grown g8) (fun x hx e => by
  have e2 : w.heap.size = x := by simpa [Value.ownBlock] using e
  omega)
 have K8 := Lib.hid k8
 have O8 := Lib.hid (show w8.ownsRow w.heap.size 57 1 (.slice a8 (0 + l.length) c8) l.length (wcells l) from by simpa using o8)
 clear o8 g8 k8
 go_wp2
 go_ret
 exact ⟨_, rfl, (by have := O8.out; rw [Nat.zero_add] at this; exact this), K8.out⟩
theorem wclip_any (w : World) (g n c : Nat) (hn : n ≤ c) : Calls Tryz.prog 153 #[.slice (some ⟨g, 0, none⟩) n c] w fun e w' => e = .returned (.slice (some ⟨g, 0, none⟩) n n) ∧ w = w' := by
 go_enter Tryz.func153, Tryz.ntmps153
 go_wp2
 go_ret
 exact ⟨rfl, rfl⟩
def SetOfRes (w : World) (l : List ByteArray) (e : Ending) (w' : World) : Prop :=
 ∃ va m, m.Pairwise (fun a b => lessW a b = true) ∧ (∀ x, x ∈ m ↔ x ∈ l) ∧ Chg (fun _ => False) w w' ∧ ((1 ≤ m.length ∧ m.length ≤ 16 ∧ e = .returned (.tuple #[va, .int .i64 0]) ∧ WordsAt w' va (fun k => w.heap.size ≤ k ∧ k < w'.heap.size) m) ∨ (¬ (1 ≤ m.length ∧ m.length ≤ 16) ∧ e = .returned (.tuple #[.slice none 0 0, .int .i64 3])))
theorem setOfRes_ok {w w' : World} {l m : List ByteArray} {va : Value} (h1 : m.Pairwise (fun a b => lessW a b = true)) (h2 : ∀ x, x ∈ m ↔ x ∈ l) (hc : Chg (fun _ => False) w w') (h3 : 1 ≤ m.length) (h4 : m.length ≤ 16) (hw : WordsAt w' va (fun k => w.heap.size ≤ k ∧ k < w'.heap.size) m) : SetOfRes w l (.returned (.tuple #[va, .int .i64 0])) w' := ⟨va, m, h1, h2, hc, .inl ⟨h3, h4, rfl, hw⟩⟩
theorem setOfRes_bad {w w' : World} {l m : List ByteArray} (h1 : m.Pairwise (fun a b => lessW a b = true)) (h2 : ∀ x, x ∈ m ↔ x ∈ l) (hc : Chg (fun _ => False) w w') (h3 : ¬ (1 ≤ m.length ∧ m.length ≤ 16)) : SetOfRes w l (.returned (.tuple #[.slice none 0 0, .int .i64 3])) w' := ⟨.slice none 0 0, m, h1, h2, hc, .inr ⟨h3, rfl⟩⟩
theorem eqDec (P : Program) (T : TypeId) : EqlAt P T Value.string (fun x y : ByteArray => decide (x = y)) := by
 have := EqlAt.string P T
 rwa [show (fun x y : ByteArray => x.toList == y.toList) = fun x y => decide (x = y) from funext fun x => funext fun y => str_eq x y] at this
theorem neDec (P : Program) (T : TypeId) : NeqAt P T Value.string (fun x y : ByteArray => decide (x = y)) := by
 have := NeqAt.string P T
 rwa [show (fun x y : ByteArray => x.toList == y.toList) = fun x y => decide (x = y) from funext fun x => funext fun y => str_eq x y] at this
set_option maxHeartbeats 2000000 in
set_option maxRecDepth 100000 in
theorem setOf_any (w : World) (g o n c : Nat) (G : Nat → Prop) (l : List ByteArray) (hv : WordsAt w (.slice (some ⟨g, o, none⟩) n c) G l) (hl1 : 1 ≤ l.length) (hl : l.length ≤ 1000) (hm : ∀ x ∈ l, mayB x.data.toList = true) :
  Calls Tryz.prog 132 #[.slice (some ⟨g, o, none⟩) n c] w (SetOfRes w l) := by
 have HV := Lib.hid hv
 have HM := Lib.hid hm
 obtain ⟨_, _, e, hl0, hcl⟩ := hv
 cases e
 have SZ := Lib.hid (show ∀ x ∈ l, x.size ≤ maxLen from fun x hx => by
  obtain ⟨j, hj⟩ := List.mem_iff_getElem?.1 hx
  obtain ⟨_, _, _, _, _, q⟩ := hcl j x hj
  exact q)
 clear hcl hm
 unfold maxLen at hl0
 go_enter Tryz.func132, Tryz.ntmps132
 go_wp2
 go_loopw [9] (fun iv wr => ∃ k : Nat, k ≤ l.length ∧ iv = .int .i64 k ∧ Hid (Chg (fun _ => False) w wr)) (fun iv _ => l.length - (intOf iv).toNat)
 case atStart => exact ⟨0, by omega, rfl, Lib.hid (Chg.refl _ _)⟩
 case round =>
  obtain ⟨k, hk, rfl, HI⟩ := hrel
  by_cases hlt : k < l.length
  ·obtain ⟨x, hx⟩ : ∃ x, l[k]? = some x := ⟨_, List.getElem?_eq_getElem hlt⟩
   obtain ⟨_, _, e1, _, hcl⟩ := HV.out.chg HI.out (fun _ _ e => e)
   cases e1
   obtain ⟨lb, lo, e2, _, c0, hxs⟩ := hcl k x hx
   cases e2
   have MY := wmay_any wr x hxs
   rw [HM.out x (List.mem_of_getElem? hx)] at MY
   have MY := Lib.hid MY
   clear hcl hx hxs
   go_wp2_with fail
   (with_reducible refine (MY.out).mono ?_)
   rintro e w2 ⟨rfl, k2⟩
   have K2 := Lib.hid (HI.out.trans k2)
   clear k2 MY
   go_wp2
   go_roundw
   case rel => exact ⟨k + 1, by omega, by go_num, K2⟩
   case measure => simp [intOf]; omega
  ·obtain rfl : k = l.length := by omega
   have CL := Lib.hid (wclone_any wr g o l.length c G l (HV.out.chg HI.out (fun _ _ e => e)) hl)
   have hsw : w.heap.size ≤ wr.heap.size := HI.out.size
   go_wp2_with fail
   (with_reducible refine (CL.out).mono ?_)
   rintro e w2 ⟨va, rfl, ho, k2⟩
   have K2 := Lib.hid (HI.out.trans k2)
   obtain ⟨a2, cap, rfl⟩ := own_shape ho
   obtain ⟨g2, rfl⟩ := own_some ho (by omega)
   have W2 := Lib.hid (wrow_own ho)
   have hcap := W2.out.len
   have hcm := W2.out.max
   have hg2 : w.heap.size ≤ g2 := Nat.le_trans hsw W2.out.base
   have hgl : g2 < w2.heap.size := by
    obtain ⟨cs, q, _⟩ := W2.out.row
    exact lt_of_obj q
   have ST := Any.slices_SortFunc Tryz.laysSortF Value.string (fun _ => rfl) cmpI cmpI_swo 151 #[] g2 0 cap l.toArray w2 (enters_of Tryz.func151 (by kernel_rfl) rfl) (CmpReads.lays fun m os dk _ x y => (compare_any _ x y).mono fun e w' ⟨he, hw⟩ => ⟨he, 0, by rw [← hw]; rfl⟩) W2.out.holds hgl (by simp; omega)
   change Calls Tryz.prog 150 #[.slice (some ⟨g2, 0, none⟩) l.length cap, .func (.func 151) #[] #[]] w2 _ at ST
   have ST := Lib.hid ST
   clear ho k2 CL
   go_wp2_with fail
   (with_reducible refine (ST.out).mono ?_)
   rintro e w3 ⟨rfl, d', q, os, hperm, hsorted, hw3⟩
   have hd : d'.size = l.length := by have := hperm.1; simpa using this
   have hpl : d'.toList.Perm l := perm_toList hperm
   have hso : SortedIn (ltOf cmpI) 0 d'.size d' := by rw [hd]; have := hsorted; simpa using this
   have w3b : w3 = grow (putRow Value.string (Sort.ahead w2 q) g2 0 d'.toList.toArray) os := by rw [hw3]; simp [sortWorld]
   obtain ⟨W3, k3⟩ := W2.out.put d'.toList (by simp [hd]) d'.toList (fun _ _ h => h) (Nat.le_refl _) q os
   rw [← w3b] at W3 k3
   have W3 := Lib.hid W3
   have K3 := Lib.hid (show Chg (fun _ => False) w w3 from K2.out.next k3 (fun x hx e => by omega))
   have hg3 : g2 < w3.heap.size := by
    obtain ⟨cs, r, _⟩ := W3.out.row
    exact lt_of_obj r
   have hz3 : ∀ w, (zeroValue 57).run Tryz.prog w = .ok (Value.string ⟨#[]⟩) w := fun _ => by kernel_rfl
   have hH3 : Holds Value.string w3 g2 0 d' := by have := W3.out.holds; simpa using this
   have CP := AnyE.slices_Compact Tryz.laysCompact Value.string (fun _ => rfl) (eqDec _ _) (neDec _ _) (⟨#[]⟩ : ByteArray) hz3 g2 0 cap d' w3 hH3 (by omega) (by omega)
   change Calls Tryz.prog 152 #[.slice (some ⟨g2, 0, none⟩) d'.size cap] w3 _ at CP
   rw [hd] at CP
   have hcm1 := compact_go hso d'.size (Nat.le_refl _)
   have hcm2 := compact_mem hso
   rw [hd] at hcm1 hcm2
   have hml : (compactUpTo d' l.length).length ≤ l.length := nodup_le (hcm1.1.imp (fun {a b} q e => by subst e; rw [show lessW a a = false from lessB_irrefl _] at q; cases q)) (fun x hx => hpl.mem_iff.1 ((hcm2 x).1 hx))
   have PW := Lib.hid hcm1.1
   have MEM := Lib.hid (show ∀ x, x ∈ compactUpTo d' l.length ↔ x ∈ l from fun x => by rw [hcm2]; exact hpl.mem_iff)
   clear hcm1 hcm2 hso hperm hsorted hw3 w3b k3 hpl K2 hH3 ST
   generalize compactUpTo d' l.length = m at *
   have CP := Lib.hid CP
   go_wp2_with fail
   (with_reducible refine (CP.out).mono ?_)
   rintro e w4 ⟨rfl, q4, hw4⟩
   have hyl : (m ++ List.replicate (l.length - m.length) (⟨#[]⟩ : ByteArray)).length = d'.toList.length := by simp [hd]; omega
   obtain ⟨W4, k4⟩ := W3.out.put (m ++ List.replicate (l.length - m.length) ⟨#[]⟩) hyl m (fun j x h => by
    rw [List.getElem?_append_left (List.getElem?_eq_some_iff.1 h).1]; exact h) (by simp) q4 #[]
   rw [grow_empty, ← hw4] at W4 k4
   have W4 := Lib.hid W4
   have K4 := Lib.hid (show Chg (fun _ => False) w w4 from K3.out.next k4 (fun x hx e => by omega))
   have hg4 : g2 < w4.heap.size := by
    obtain ⟨cs, r, _⟩ := W4.out.row
    exact lt_of_obj r
   have hmc : m.length ≤ cap := by omega
   clear hyl k4 hw4 CP K3 W3
   by_cases hb : 1 ≤ m.length ∧ m.length ≤ 16
   ·have g1 : decide ((m.length : Int) < 1) = false := decide_eq_false (by omega)
    have g2' : decide (16 < (m.length : Int)) = false := decide_eq_false (by omega)
    have CC := Lib.hid (wclip_any w4 g2 m.length cap hmc)
    have FIN := Lib.hid (setOfRes_ok PW.out MEM.out K4.out hb.1 hb.2 ((W4.out.words (fun x hx => SZ.out x ((MEM.out x).1 hx)) rfl m.length).up (fun k hk => by omega)))
    clear hb
    go_wp2_with fail
    (with_reducible refine (CC.out).mono ?_)
    rintro e w5 ⟨rfl, rfl⟩
    go_wp2
    go_ret2
    exact FIN.out
   ·have FIN := Lib.hid (setOfRes_bad PW.out MEM.out K4.out hb)
    have P3 : (decide ((m.length : Int) < 1) = true) ∨ (decide ((m.length : Int) < 1) = false ∧ decide (16 < (m.length : Int)) = true) := by
     by_cases q : (m.length : Int) < 1
     ·exact .inl (decide_eq_true q)
     ·exact .inr ⟨decide_eq_false q, decide_eq_true (by omega)⟩
    clear hb
    rcases P3 with q1 | ⟨q1, q2⟩
    all_goals
     go_wp2
     go_ret2
     exact FIN.out
end Go.Proofs.YthdfplafihmejaaGreat
