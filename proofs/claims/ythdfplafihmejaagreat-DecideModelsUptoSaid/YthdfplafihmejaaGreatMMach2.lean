/-
  slices.Sort at []int: by the shelf's contract, over a row of the call's own.
  Where words stand: what the machine collects at a place, sorted, is the list of the words that begin there.
  Package match: here.
  Package match: All, First, Len.
-/
import Derived.Test.YthdfplafihmejaaGreatMMach1
import Derived.Ground.NamesProg
import Derived.Shelf.Lay
import Derived.Shelf.Sort.Plain
import Derived.Shelf.Slices.In.SortNone
import Derived.Laws.AppendOwnNone
namespace Go.Proofs
open Go.Shelf
shelf_lay Lays.n189 Nm 189 at Tryz as Tryz.laysSort
end Go.Proofs
namespace Go.Proofs.YthdfplafihmejaaGreat
open Go.RowKit Go.Shelf Go.Sort

def sorted (l : List Nat) : List Nat := l.mergeSort fun x y => decide (x ≤ y)
theorem sorted_perm (l : List Nat) : (sorted l).Perm l := List.mergeSort_perm l _
theorem sorted_length (l : List Nat) : (sorted l).length = l.length := (sorted_perm l).length_eq
theorem sorted_pairwise (l : List Nat) : (sorted l).Pairwise (· ≤ ·) := by
 have := List.pairwise_mergeSort (le := fun x y : Nat => decide (x ≤ y)) (fun a b c => by simp; omega) (fun a b => by simp; omega) l
 exact this.imp (fun h => by simpa using h)
theorem sorted_ints (l : List Nat) : ((l.map fun (n : Nat) => (n : Int)).mergeSort fun x y => decide (x ≤ y)).map (Value.int .i64) = ints (sorted l) := by
 unfold sorted ints
 rw [← List.map_mergeSort (r := fun x y : Nat => decide (x ≤ y)) (s := fun x y : Int => decide (x ≤ y)) (f := fun (n : Nat) => (n : Int)) (fun a _ b _ => by rw [decide_eq_decide]; omega), List.map_map]; rfl
theorem run_sort_row {w : World} {g n : Nat} {e : TypeId} {cur : Array Value} (ys : List Int) (hg : w.heap[g]? = some (.cells cur e (0, 0))) (hy : ys.length = n) (hc : n ≤ cur.size) (q : Nat) (os : Array Obj) :
  (grow (putRow (Value.int .i64) (Sort.ahead w q) g 0 ys.toArray) os).heap[g]? = some (.cells ((ys.map (Value.int .i64)) ++ cur.toList.drop n).toArray e (0, 0)) ∧ Chg (· = g) w (grow (putRow (Value.int .i64) (Sort.ahead w q) g 0 ys.toArray) os) := by
 have hlt := lt_of_obj hg
 have h1 : (putRow (Value.int .i64) (Sort.ahead w q) g 0 ys.toArray).heap[g]? = some (.cells (putCells (Value.int .i64) 0 ys.toArray cur) e (0, 0)) := by
  show (w.heap.modify g (onCells _))[g]? = _
  rw [Array.getElem?_modify, if_pos rfl, hg]; rfl
 have h2 : putCells (Value.int .i64) 0 ys.toArray cur = ((ys.map (Value.int .i64)) ++ cur.toList.drop n).toArray := by
  apply Array.ext
  ·simp [putCells]; omega
  ·intro i h3 h4
   simp only [putCells, Array.size_mapIdx] at h3
   simp only [putCells, Array.getElem_mapIdx, List.getElem_toArray]
   by_cases hi : i < n
   ·rw [if_pos ⟨by omega, by simp; omega⟩, List.getElem_append_left (by simp; omega)]
    simp [hy, hi]
   ·rw [if_neg (by simp; omega), List.getElem_append_right (by simp; omega)]
    simp [hy]
    congr 1; omega
 refine ⟨?_, ?_⟩
 ·rw [heap_grow_old _ os (by rw [size_putRow]; exact hlt), h1, h2]
 ·have hz := size_putRow (Value.int .i64) (Sort.ahead w q) g 0 ys.toArray
  refine ⟨rfl, rfl, rfl, by rw [grow, Array.size_append, hz]; show w.heap.size ≤ w.heap.size + os.size; omega, fun k hk hne => ?_⟩
  rw [heap_grow_old _ os (by rw [size_putRow]; exact hk)]
  show (w.heap.modify g (onCells _))[k]? = _
  rw [Array.getElem?_modify, if_neg (fun e => hne e.symm)]
theorem sort_own (w : World) (base : Nat) (v : Value) (l : List Nat) (h : w.ownsRow base 3 1 v l.length (ints l)) (hl : l.length ≤ 1000000) :
  Calls Tryz.prog 188 #[v] w fun e w' => e = .returned (.tuple #[]) ∧ w'.ownsRow base 3 1 v l.length (ints (sorted l)) ∧ Chg (fun x => v.ownBlock = some x) w w' := by
 have h0 := h
 obtain ⟨h1, ⟨rfl, h2⟩ | ⟨g, cap, cur, rfl, hg, hh, q1, q2, q3, q4⟩⟩ := h
 ·refine (Any.slices_Sort_int_none Tryz.laysSort none 0 w).mono ?_
  rintro e w' ⟨rfl, rfl⟩
  have : l = [] := List.eq_nil_of_length_eq_zero h2
  subst this
  exact ⟨rfl, by simpa [sorted] using h0, Chg.refl _ _⟩
 ·have hcs : cur.size = cap := by omega
  have e1 : (l.map fun (n : Nat) => (n : Int)).length = l.length := List.length_map ..
  have hH : Holds (Value.int .i64) w g 0 (l.map fun (n : Nat) => (n : Int)).toArray := by
   intro j hj
   have hj : j < l.length := by simpa using hj
   refine ⟨?_, frozen_of hh⟩
   rw [Nat.zero_add]
   have := h0.cellAt (j := j) (by omega)
   rw [this]
   unfold ints
   rw [List.getElem?_map, List.getElem?_eq_getElem hj, getElem!_pos _ j (by simpa using hj)]
   simp
  have hs := Any.slices_Sort_int Tryz.laysSort g 0 cap (l.map fun (n : Nat) => (n : Int)) w hH (lt_of_obj hh) (by rw [e1]; omega)
  rw [e1] at hs
  refine Calls.mono hs ?_
  rintro e w' ⟨rfl, q, os, rfl⟩
  have hyl : ((l.map fun (n : Nat) => (n : Int)).mergeSort fun x y => decide (x ≤ y)).length = l.length := by rw [List.length_mergeSort, e1]
  obtain ⟨r1, r2⟩ := run_sort_row _ hh hyl (by omega) q os
  rw [sorted_ints] at r1
  have il : (ints (sorted l)).length = l.length := by unfold ints; rw [List.length_map, sorted_length]
  refine ⟨rfl, ⟨by rw [il]; omega, .inr ⟨g, cap, _, rfl, hg, r1, q1, q2, ?_, ?_⟩⟩, r2.mono (fun x _ e => by rw [e]; rfl)⟩
  ·simp [il]; omega
  ·rw [Nat.mul_one, List.take_append_of_le_length (by rw [il]; exact Nat.le_refl _), List.take_of_length_le (by rw [il]; exact Nat.le_refl _)]
end Go.Proofs.YthdfplafihmejaaGreat

namespace Go.Proofs.YthdfplafihmejaaGreat

/-- What is collected on the way: the words that end in the first j states. -/
def accTo (wh : List Nat → List Nat) (A : List Nat) : Nat → List Nat
 | 0 => []
 | j + 1 => accTo wh A j ++ wh (A.take (j + 1))
theorem accTo_mem {wh : List Nat → List Nat} {A : List Nat} : ∀ {j i : Nat}, i ∈ accTo wh A j ↔ ∃ t, 1 ≤ t ∧ t ≤ j ∧ i ∈ wh (A.take t)
 | 0, i => by simp [accTo]; intro t h1 h2; omega
 | j + 1, i => by
  rw [accTo, List.mem_append, accTo_mem]
  constructor
  ·rintro (⟨t, h1, h2, h3⟩ | h)
   ·exact ⟨t, h1, by omega, h3⟩
   ·exact ⟨j + 1, by omega, by omega, h⟩
  ·rintro ⟨t, h1, h2, h3⟩
   rcases Nat.lt_or_ge j t with q | q
   ·obtain rfl : t = j + 1 := by omega
    exact .inr h3
   ·exact .inl ⟨t, h1, q, h3⟩
theorem whichTo_mem {l : List (List UInt8)} {n i : Nat} {q : List Nat} : i ∈ whichTo l n q ↔ i < n ∧ mayB (l.getD i []) = true ∧ atoms (l.getD i []) = q := by
 unfold whichTo; simp [List.mem_filter]
theorem whichTo_nodup (l : List (List UInt8)) (n : Nat) (q : List Nat) : (whichTo l n q).Nodup := List.Pairwise.filter _ List.nodup_range
theorem accTo_nodup (l : List (List UInt8)) (n : Nat) (A : List Nat) : ∀ j, j ≤ A.length → (accTo (whichTo l n) A j).Nodup
 | 0, _ => by simp [accTo]
 | j + 1, hj => by
  rw [accTo, List.nodup_append]
  refine ⟨accTo_nodup l n A j (by omega), whichTo_nodup l n _, fun a ha b hb => ?_⟩
  rintro rfl
  obtain ⟨t, h1, h2, h3⟩ := accTo_mem.1 ha
  have e1 := (whichTo_mem.1 h3).2.2
  have e2 := (whichTo_mem.1 hb).2.2
  have := congrArg List.length (e1.symm.trans e2)
  simp only [List.length_take] at this
  omega
theorem accTo_length (l : List (List UInt8)) (n : Nat) (A : List Nat) (j : Nat) (hj : j ≤ A.length) : (accTo (whichTo l n) A j).length ≤ n := by
 have hn := accTo_nodup l n A j hj
 have hs : accTo (whichTo l n) A j ⊆ List.range n := fun i hi => by
  obtain ⟨t, _, _, h3⟩ := accTo_mem.1 hi
  exact List.mem_range.2 (whichTo_mem.1 h3).1
 have := hn.length_le_of_subset hs
 simpa using this
/-- What begins a path is a path. -/
theorem Tree.take {ps : List (List Nat)} (h : Tree ps) (A : List Nat) : ∀ (d j : Nat), A.take (j + d) ∈ ps → A.take j ∈ ps
 | 0, j, hm => hm
 | d + 1, j, hm => by
  rcases Nat.lt_or_ge (j + d) A.length with q | q
  ·refine Tree.take h A d j ?_
   have : A.take (j + (d + 1)) = A.take (j + d) ++ [A[j + d]] := by
    rw [show j + (d + 1) = j + d + 1 from by omega, List.take_succ_eq_append_getElem q]
   rw [this] at hm
   exact h.down _ _ hm
  ·refine Tree.take h A d j ?_
   rw [List.take_of_length_le q]
   rw [List.take_of_length_le (by omega)] at hm
   exact hm
theorem sorted_unique : ∀ {a b : List Nat}, a.Pairwise (· ≤ ·) → b.Pairwise (· ≤ ·) → a.Nodup → b.Nodup → (∀ x, x ∈ a ↔ x ∈ b) → a = b
 | [], [], _, _, _, _, _ => rfl
 | [], y :: b, _, _, _, _, h => by have := (h y).2 (by simp); simp at this
 | x :: a, [], _, _, _, _, h => by have := (h x).1 (by simp); simp at this
 | x :: a, y :: b, ha, hb, na, nb, h => by
  rw [List.pairwise_cons] at ha hb
  rw [List.nodup_cons] at na nb
  have hxy : x = y := by
   have h1 : x ∈ y :: b := (h x).1 (by simp)
   have h2 : y ∈ x :: a := (h y).2 (by simp)
   rw [List.mem_cons] at h1 h2
   rcases h1 with h1 | h1
   ·exact h1
   ·rcases h2 with h2 | h2
    ·exact h2.symm
    ·have := hb.1 x h1; have := ha.1 y h2; omega
  subst hxy
  congr 1
  refine sorted_unique ha.2 hb.2 na.2 nb.2 (fun z => ?_)
  have := h z
  rw [List.mem_cons, List.mem_cons] at this
  constructor
  ·intro hz
   rcases this.1 (.inr hz) with rfl | q
   ·exact absurd hz na.1
   ·exact q
  ·intro hz
   rcases this.2 (.inr hz) with rfl | q
   ·exact absurd hz nb.1
   ·exact q
theorem here_end (l : List (List UInt8)) (w : List UInt8) (place j : Nat) (hj : j ≤ ((atoms w).drop place).length) (hs : j = ((atoms w).drop place).length ∨ ((atoms w).drop place).take (j + 1) ∉ pathsTo l l.length) :
  sorted (accTo (whichTo l l.length) ((atoms w).drop place) j) = hereL l w place := by
 have np : (accTo (whichTo l l.length) ((atoms w).drop place) j).Nodup := accTo_nodup _ _ _ _ hj
 refine sorted_unique (sorted_pairwise _) ?_ ((sorted_perm _).nodup_iff.2 np) (List.Pairwise.filter _ List.nodup_range) (fun i => ?_)
 ·exact (List.Pairwise.filter _ List.pairwise_lt_range).imp (fun h => Nat.le_of_lt h)
 ·rw [(sorted_perm _).mem_iff, accTo_mem]
  unfold hereL standsB
  simp only [List.mem_filter, List.mem_range, Bool.and_eq_true, List.isPrefixOf_iff_prefix]
  constructor
  ·rintro ⟨t, h1, h2, h3⟩
   obtain ⟨q1, q2, q3⟩ := whichTo_mem.1 h3
   exact ⟨q1, q2, by rw [q3]; exact List.take_prefix _ _⟩
  ·rintro ⟨q1, q2, q3⟩
   have hl : 1 ≤ (atoms (l.getD i [])).length := by rw [atoms_length]; exact ((mayB_iff _).1 q2).2.1
   have ht : ((atoms w).drop place).take (atoms (l.getD i [])).length = atoms (l.getD i []) := (List.prefix_iff_eq_take.1 q3).symm
   refine ⟨(atoms (l.getD i [])).length, hl, ?_, whichTo_mem.2 ⟨q1, q2, ht.symm⟩⟩
   have hle := q3.length_le
   rcases hs with hs | hs
   ·omega
   ·rcases Nat.lt_or_ge j (atoms (l.getD i [])).length with q | q
    ·exfalso
     apply hs
     have hm := pathsTo_mem l l.length i q1 q2
     refine (tree_pathsTo l l.length).take ((atoms w).drop place) ((atoms (l.getD i [])).length - (j + 1)) (j + 1) ?_
     rw [show j + 1 + ((atoms (l.getD i [])).length - (j + 1)) = (atoms (l.getD i [])).length from by omega, ht]
     exact hm
    ·exact q
end Go.Proofs.YthdfplafihmejaaGreat

namespace Go.Proofs.YthdfplafihmejaaGreat
open Go.RowKit Go.Maps

theorem drop_take_succ (l : List UInt8) {place j : Nat} (h : place + j < alen l) : ((atoms l).drop place).take (j + 1) = ((atoms l).drop place).take j ++ [atomAt l (place + j)] := by
 have hl : j < ((atoms l).drop place).length := by rw [List.length_drop, atoms_length]; omega
 rw [List.take_succ_eq_append_getElem hl]
 congr 2
 have := atoms_get l h
 rw [List.getElem_drop]
 rw [List.getElem?_eq_getElem (by rw [atoms_length]; exact h)] at this
 exact Option.some.inj this
theorem drop_len (l : List UInt8) (place : Nat) : ((atoms l).drop place).length = alen l - place := by rw [List.length_drop, atoms_length]

/-- 'append(s, x...)': both lie in rows that are owned, or are nil. -/
theorem wpList_join {P : Program} {w : World} {ops : Array Oper} {rest : List Oper} {o : Oper} {a : Act} {Q : Exit → Act → World → Prop} (hgd : o.guard = none) (s x : Operand) (t : TypeId)
  (ho : o.op = .call { callee := .builtin .append, args := #[s, x], argTypes := #[t, t] }) (e : TypeId) (size bytes : Nat) (ht : P.underlying t = some (.slice e)) (hE : ElemInfo P e size bytes)
  (base : Nat) (v : Value) (n : Nat) (xs : List Value) (hs : a.eval s = v) (hown : w.ownsRow base e size v n xs)
  (base2 : Nat) (u : Value) (m : Nat) (ys : List Value) (hx : a.eval x = u) (hu : w.ownsRow base2 e size u m ys) (h1 : ∀ z ∈ ys, z.oneCell' = true)
  (hbytes : (n + m) * bytes ≤ 140737488355328) (h63 : n + m ≤ maxLen) (hbase : base ≤ w.heap.size)
  (h : ∀ v' w', w'.ownsRow base e size v' (n + m) (xs ++ ys) → w.grownBy w' v.ownBlock → wpList P ops Q rest (a.put o.dst v') w') : wpList P ops Q (o :: rest) a w := by
 obtain ⟨i, z, hi, hz, q1, q2, q3, q4⟩ := hE
 have hu0 := hu
 obtain ⟨hl, ⟨rfl, rfl⟩ | ⟨g, cap, cur, rfl, hg, hh, r1, r2, r3, r4⟩⟩ := hu
 ·have : ys = [] := List.eq_nil_of_length_eq_zero (by simpa using hl)
  subst this
  refine wpList_append_own_none hgd s x t ho base e i size ht hi v n xs hs hown hx ?_
  exact h v w (by simpa using hown) ⟨rfl, rfl, rfl, Nat.le_refl _, fun _ _ _ => rfl⟩
 ·exact wpList_append_own w hgd s x t ho base e i z size bytes ht hi hz q1 q2 q3 q4 v n xs hs hown ⟨g, 0, none⟩ m cap ys hx hl (hu0.cells (g := g) rfl) h1 h63 hbytes hbase (fun v' w' h2 h3 _ => h v' w' h2 h3)
theorem ints_one (l : List Nat) : ∀ v ∈ ints l, v.oneCell' = true := by
 intro v hv; simp [ints] at hv; obtain ⟨c, _, rfl⟩ := hv; rfl
theorem ints_append (a b : List Nat) : ints (a ++ b) = ints a ++ ints b := by unfold ints; rw [List.map_append]
theorem Chg.own {w w1 w2 : World} {v : Value} {e : TypeId} {size n : Nat} {xs : List Value} (h : Chg (fun _ => False) w w1) (ho : w1.ownsRow w.heap.size e size v n xs) (hc : Chg (fun x => v.ownBlock = some x) w1 w2) : Chg (fun _ => False) w w2 :=
 ⟨hc.os.trans h.os, hc.tape.trans h.tape, hc.output.trans h.output, Nat.le_trans h.size hc.size, fun i hi _ => by
  rw [hc.block i (by have := h.size; omega) (fun e => by have := (ho.lt i e).1; omega)]; exact h.block i hi (fun e => e)⟩
set_option maxHeartbeats 4000000 in
set_option maxRecDepth 100000 in
theorem here_any (w : World) (base : Nat) (B : MB) (cs : List (Value × Value)) (L : List (List UInt8)) (s : ByteArray) (place : Nat) (h : MachAt w base B cs (pathsTo L L.length) (whichTo L L.length)) (hs : s.size ≤ 400) (hp : place < alen s.data.toList) (hL : L.length ≤ 410) :
  Calls Tryz.prog 182 #[.pointer (some ⟨B.b, 0, none⟩), .string s, .int .i64 (place : Int)] w fun e w' => ∃ v, e = .returned v ∧ w'.ownsRow w.heap.size 3 1 v (hereL L s.data.toList place).length (ints (hereL L s.data.toList place)) ∧ Chg (fun _ => False) w w' := by
 have hsl := size_list s
 have LEN := Lib.hid (fun w => wlen_any w s (by unfold maxLen; omega))
 have AT := Lib.hid (fun w k hk => wat_in w s k (by unfold maxLen; omega) hk)
 have hn2 : alen s.data.toList ≤ 200 := by unfold alen; omega
 have TK := Lib.hid (fun j hj => drop_take_succ s.data.toList (place := place) (j := j) hj)
 have AL := Lib.hid (drop_len s.data.toList place)
 have ALT := Lib.hid (fun k => atomAt_lt s.data.toList k)
 have FIN := Lib.hid (fun j hj hq => here_end L s.data.toList place j hj hq)
 have ACL := Lib.hid (fun j hj => accTo_length L L.length ((atoms s.data.toList).drop place) j hj)
 have HT := Lib.hid (tree_pathsTo L L.length)
 have H := Lib.hid h
 have hpl := pathsTo_length L L.length
 clear hs hsl h
 generalize hereL L s.data.toList place = res at *
 generalize (atoms s.data.toList).drop place = A at *
 generalize pathsTo L L.length = P at *
 generalize whichTo L L.length = wh at *
 generalize alen s.data.toList = n at *
 go_enter Tryz.func182, Tryz.ntmps182
 go_wp2
 go_loopw [7, 8, 9] (fun lv av iv wr => ∃ j : Nat, place + j ≤ n ∧ iv = .int .i64 ((place + j : Nat) : Int) ∧ Hid (A.take j ∈ P) ∧ av = .int .i64 ((P.idxOf (A.take j) : Nat) : Int) ∧ wr.ownsRow w.heap.size 3 1 lv (accTo wh A j).length (ints (accTo wh A j)) ∧ Chg (fun _ => False) w wr) (fun _ _ iv _ => n - (intOf iv).toNat)
 case atStart =>
  refine ⟨0, by omega, rfl, Lib.hid (by rw [List.take_zero]; exact HT.out.mem_nil), ?_, World.ownsRow_nil _ _ _ _, Chg.refl _ _⟩
  rw [List.take_zero]
  have e0 : P.idxOf [] = 0 := by
   cases P with
   | nil => rfl
   | cons a r => have := HT.out.root; simp at this; subst this; simp
  rw [e0]; rfl
 case round =>
  obtain ⟨j, hj, rfl, PM, rfl, ho, hc⟩ := hrel
  have HO := Lib.hid ho
  have HC := Lib.hid hc
  have acl := ACL.out j (by rw [AL.out]; omega)
  clear ho hc
  by_cases hlt : place + j < n
  ·have hM := H.out.chg HC.out
   have TK1 := Lib.hid (TK.out j hlt)
   have hak := ALT.out (place + j)
   obtain ⟨i0, hi0⟩ : ∃ i0 : Nat, place + j = i0 := ⟨_, rfl⟩
   rw [hi0] at hlt hak TK1 ⊢
   have HI0 := Lib.hid hi0
   generalize hav : atomAt s.data.toList i0 = ak at *
   have HP := Lib.hid (getIdx PM.out)
   obtain ⟨ix, hix⟩ : ∃ ix, P.idxOf (A.take j) = ix := ⟨_, rfl⟩
   rw [hix] at HP ⊢
   have hixl : ix < P.length := by rw [← hix]; exact List.idxOf_lt_length_of_mem PM.out
   clear hix hi0
   obtain ⟨c, hcc⟩ : ∃ c, cs[ix]? = some c := ⟨_, List.getElem?_eq_getElem (by rw [hM.len]; exact hixl)⟩
   obtain ⟨mv, vv⟩ := c
   have HCC := Lib.hid hcc
   have hcl : ix < cs.length := by rw [hM.len]; exact hixl
   have cb : wr.cell? ⟨B.b, 0, none⟩ = some (.slice (some ⟨B.g, 0, none⟩) cs.length B.cap) := cell_of hM.hb rfl
   have cm : wr.cell? ⟨B.g, ix * 2, none⟩ = some mv := (hM.mcell hcc).1
   have HM := Lib.hid hM
   have CLEN := Lib.hid hM.len
   clear hM hcc
   have b1 : (0 : Int) ≤ (ix : Int) := by omega
   have b2 : (ix : Int) < (cs.length : Int) := by omega
   go_wp2_with fail
   refine (LEN.out wr).mono ?_
   rintro e w' ⟨rfl, rfl⟩
   go_wp2_with fail
   refine wp_region_plan (N := 50) [.rd [0, 1, 2, 3, 4, 5, 6, 7, 8, 9], .ef 10, .ef 11, .rd [12, 13, 14, 15, 16]] (fun w' => w'.cell? ⟨B.b, 0, none⟩ = some (.slice (some ⟨B.g, 0, none⟩) cs.length B.cap) ∧ w'.cell? ⟨B.g, ix * 2, none⟩ = some mv) (by kernel_rfl) (by kernel_rfl) (by kernel_rfl) (by kernel_rfl) (Nat.le_of_ble_eq_true rfl) ⟨cb, cm⟩ ?_
   refine plan_rd (A := ?A1) ?h1 ?h2
   case h1 =>
    intro w' hS K hK
    obtain ⟨s1, s2⟩ := hS
    simp only [opsAt, List.filterMap_cons, List.filterMap_nil, List.getElem?_toArray, List.getElem?_cons_succ, List.getElem?_cons_zero]
    repeat still_step
    refine wpStill_nil ?_
    exact hK
   clear cb cm
   refine plan_ef rfl ?_
   go_wp2_with fail
   refine (AT.out _ i0 hlt).mono ?_
   rintro e w2 ⟨rfl, c2⟩
   rw [hav]
   have M2 := Lib.hid (HM.out.chg ((chg_drew (fun _ => False) wr).trans c2))
   have C2 := Lib.hid (HC.out.trans ((chg_drew (fun _ => False) wr).trans c2))
   have O2 := Lib.hid (own_chg HO.out ((chg_drew (fun _ => False) wr).trans c2) (fun _ _ e => e))
   clear c2 HM HC HO hav
   have cb : w2.cell? ⟨B.b, 0, none⟩ = some (.slice (some ⟨B.g, 0, none⟩) cs.length B.cap) := cell_of M2.out.hb rfl
   have cm : w2.cell? ⟨B.g, ix * 2, none⟩ = some mv := (M2.out.mcell HCC.out).1
   have EM := Lib.hid (M2.out.em ix _ _ HP.out HCC.out)
   go_wp2_with fail
   first | refine ⟨⟨cb, cm⟩, ?_⟩ | skip
   refine plan_ef rfl ?_
   refine wpList_edge rfl (.tmp 27) (.tmp 30) rfl base P.length mv (edges P (A.take j)) rfl EM.out ak hak rfl ?_
   intro c hc
   by_cases hin : A.take j ++ [ak] ∈ P
   ·have he : edges P (A.take j) ak = some (P.idxOf (A.take j ++ [ak])) := by unfold edges; rw [if_pos hin]
    have hc' := hc _ he
    subst hc'
    rw [he]
    clear hc he
    go_wp2_with fail
    refine ⟨⟨cb, cm⟩, ?_⟩
    refine plan_rd (A := ?A2) ?h3 ?h4
    case h3 =>
     intro w' hS K hK
     clear hS
     simp only [opsAt, List.filterMap_cons, List.filterMap_nil, List.getElem?_toArray, List.getElem?_cons_succ, List.getElem?_cons_zero]
     repeat still_step
     refine wpStill_nil ?_
     exact hK
    refine plan_nil ?_
    rw [← TK1.out]
    have hin' := hin
    rw [← TK1.out] at hin'
    have PM2 := Lib.hid hin'
    clear hin hin' cb cm EM HCC HP hcl b1 b2
    have HP := Lib.hid (getIdx PM2.out)
    obtain ⟨ix2, hix⟩ : ∃ ix2, P.idxOf (A.take (j + 1)) = ix2 := ⟨_, rfl⟩
    rw [hix] at HP ⊢
    have hixl : ix2 < P.length := by rw [← hix]; exact List.idxOf_lt_length_of_mem PM2.out
    have HIX := Lib.hid hix
    clear hix
    obtain ⟨c, hcc⟩ : ∃ c, cs[ix2]? = some c := ⟨_, List.getElem?_eq_getElem (by rw [CLEN.out]; exact hixl)⟩
    obtain ⟨mv2, vv2⟩ := c
    have hcl : ix2 < cs.length := by rw [CLEN.out]; exact hixl
    have cb : w2.cell? ⟨B.b, 0, none⟩ = some (.slice (some ⟨B.g, 0, none⟩) cs.length B.cap) := cell_of M2.out.hb rfl
    have cw : w2.cell? ⟨B.g, ix2 * 2 + 1, none⟩ = some vv2 := (M2.out.mcell hcc).2
    have EW := Lib.hid (M2.out.ew ix2 _ _ HP.out hcc)
    have AC1 := Lib.hid (show accTo wh A (j + 1) = accTo wh A j ++ wh (A.take (j + 1)) from rfl)
    have acl2 := ACL.out (j + 1) (by rw [AL.out]; have := HI0.out; omega)
    rw [AC1.out, List.length_append] at acl2
    have hsz := C2.out.size
    clear hcc
    go_wp2_with (at_builtin; refine wpList_join rfl (.tmp 37) (.tmp 45) 36 rfl 3 1 8 Tryz.underlying36 Tryz.elemInt w.heap.size _ _ _ rfl O2.out base _ _ _ rfl EW.out (ints_one _) ?c1 ?c2 ?c3 ?next)
    case c1 => omega
    case c2 => unfold maxLen; omega
    case next =>
     intro v5 w5 o5 g5
     have C5 := Lib.hid (C2.out.own O2.out (Chg.of_grown g5))
     rw [← ints_append, ← AC1.out, ← List.length_append, ← AC1.out] at o5
     have O5 := Lib.hid o5
     clear o5 g5
     go_wp2
     go_roundw
     case rel => exact ⟨j + 1, by have := HI0.out; omega, by rw [show place + (j + 1) = i0 + 1 from by have := HI0.out; omega]; go_num, PM2, by rw [HIX.out], O5.out, C5.out⟩
     case measure => simp [intOf]; omega
   ·have he : edges P (A.take j) ak = none := by unfold edges; rw [if_neg hin]
    rw [he]
    clear hc he
    have FN := Lib.hid (FIN.out j (by rw [AL.out]; omega) (.inr (by rw [TK1.out]; exact hin)))
    have LR := Lib.hid (show (accTo wh A j).length = res.length by rw [← FN.out, sorted_length])
    go_wp2_with fail
    refine ⟨⟨cb, cm⟩, ?_⟩
    refine plan_rd (A := ?A5) ?h5 ?h6
    case h5 =>
     intro w' hS K hK
     clear hS
     simp only [opsAt, List.filterMap_cons, List.filterMap_nil, List.getElem?_toArray, List.getElem?_cons_succ, List.getElem?_cons_zero]
     repeat still_step
     refine wpStill_nil ?_
     exact hK
    refine plan_nil ?_
    have SORT := Lib.hid (sort_own w2 w.heap.size _ _ O2.out (by omega))
    go_wp2_with fail
    refine (SORT.out).mono ?_
    rintro e w9 ⟨rfl, o9, c9⟩
    have C9 := Lib.hid (C2.out.own O2.out c9)
    rw [FN.out] at o9
    have O9 := Lib.hid o9
    clear o9 c9
    go_wp2
    go_ret
    exact ⟨_, rfl, by rw [← LR.out]; exact O9.out, C9.out⟩
  ·have FN := Lib.hid (FIN.out j (by rw [AL.out]; omega) (.inl (by rw [AL.out]; omega)))
   have LR := Lib.hid (show (accTo wh A j).length = res.length by rw [← FN.out, sorted_length])
   obtain ⟨i0, hi0⟩ : ∃ i0 : Nat, place + j = i0 := ⟨_, rfl⟩
   rw [hi0] at hlt ⊢
   clear hi0
   have hd : decide (i0 < n) = false := by rw [decide_eq_false_iff_not]; exact hlt
   have SORT := Lib.hid (sort_own wr w.heap.size _ _ HO.out (by omega))
   go_wp2_with fail
   refine (LEN.out wr).mono ?_
   rintro e w' ⟨rfl, rfl⟩
   go_wp2_with fail
   refine (SORT.out).mono ?_
   rintro e w9 ⟨rfl, o9, c9⟩
   have C9 := Lib.hid (HC.out.own HO.out c9)
   rw [FN.out] at o9
   have O9 := Lib.hid o9
   clear o9 c9
   go_wp2
   go_ret
   exact ⟨_, rfl, by rw [← LR.out]; exact O9.out, C9.out⟩
end Go.Proofs.YthdfplafihmejaaGreat

namespace Go.Proofs.YthdfplafihmejaaGreat
open Go.RowKit Go.Maps

def hcells (l : List (Nat × Nat)) : List Value := l.flatMap fun h => [.int .i64 (h.1 : Int), .int .i64 (h.2 : Int)]
theorem hcells_append (a b : List (Nat × Nat)) : hcells (a ++ b) = hcells a ++ hcells b := by unfold hcells; rw [List.flatMap_append]
theorem Tryz.elemHit : ElemInfo Tryz.prog 248 2 16 := elemInfo_of (z := .agg #[.int .i64 0, .int .i64 0]) (by kernel_rfl) rfl (by decide)
theorem apart_grown {w : World} {base : Nat} {e : TypeId} {size n : Nat} {xs : List Value} {v v' u : Value} (h : Apart v u) (hs : SameOrNew w v v') (hu : w.ownsRow base e size u n xs) : Apart v' u := by
 intro x hx hu'
 rcases hs with hs | hs
 ·rw [hs] at hx; exact h x hx hu'
 ·have := hs x hx; have := (hu.lt x hu').2; omega
theorem own_kept {w w' : World} {base : Nat} {e : TypeId} {size n : Nat} {xs : List Value} {v u : Value} (h : w.ownsRow base e size u n xs) (hg : w.grownBy w' v.ownBlock) (ha : Apart v u) : w'.ownsRow base e size u n xs :=
 own_chg h (Chg.of_grown hg) (fun k hk e => ha k e hk)
/-- A slice of ints that is owned, to be read. -/
theorem own_ints {w : World} {base : Nat} {v : Value} {l : List Nat} (h : w.ownsRow base 3 1 v l.length (ints l)) : ∃ a cap, v = .slice a l.length cap ∧ l.length ≤ maxLen ∧ ∀ j (x : Nat), l[j]? = some x → ∃ g, a = some ⟨g, 0, none⟩ ∧ base ≤ g ∧ w.cell? ⟨g, j, none⟩ = some (.int .i64 (x : Int)) := by
 have h0 := h
 obtain ⟨h1, ⟨rfl, h2⟩ | ⟨g, cap, cur, rfl, hg, hh, q1, q2, q3, q4⟩⟩ := h
 ·refine ⟨none, 0, by rw [h2], by rw [h2]; unfold maxLen; omega, fun j x hj => ?_⟩
  have : j < l.length := (List.getElem?_eq_some_iff.1 hj).1
  omega
 ·refine ⟨_, cap, rfl, by omega, fun j x hj => ⟨g, rfl, hg, ?_⟩⟩
  have hj' : j < l.length := (List.getElem?_eq_some_iff.1 hj).1
  have := h0.cellAt (j := j) (by omega)
  rw [this]; unfold ints; rw [List.getElem?_map, hj]; rfl
theorem hitsTo_length (l : List (List UInt8)) (w : List UInt8) : ∀ n, (hitsTo l w n).length ≤ n * l.length
 | 0 => by simp [hitsTo]
 | n + 1 => by
  rw [hitsTo_succ, List.length_append, List.length_map, Nat.add_mul]
  have := hitsTo_length l w n; have := hereL_length l w n; omega

set_option maxHeartbeats 2000000 in
theorem all_any (w : World) (base : Nat) (B : MB) (cs : List (Value × Value)) (L : List (List UInt8)) (s : ByteArray) (h : MachAt w base B cs (pathsTo L L.length) (whichTo L L.length)) (hs : s.size ≤ 400) (hL : L.length ≤ 410) :
  Calls Tryz.prog 170 #[.pointer (some ⟨B.b, 0, none⟩), .string s] w fun e w' => ∃ v, e = .returned v ∧ w'.ownsRow w.heap.size 248 2 v (hits L s.data.toList).length (hcells (hits L s.data.toList)) ∧ Chg (fun _ => False) w w' := by
 have hsl := size_list s
 have LEN := Lib.hid (wlen_any w s (by unfold maxLen; omega))
 have hn2 : alen s.data.toList ≤ 200 := by unfold alen; omega
 have HERE := Lib.hid (fun w1 (h1 : MachAt w1 base B cs (pathsTo L L.length) (whichTo L L.length)) place hp => here_any w1 base B cs L s place h1 hs hp hL)
 have HS := Lib.hid (fun k => hitsTo_succ L s.data.toList k)
 have HLN := Lib.hid (fun k => hitsTo_length L s.data.toList k)
 have HHL := Lib.hid (fun k => hereL_length L s.data.toList k)
 have H := Lib.hid h
 clear hs hsl h
 unfold hits
 generalize alen s.data.toList = n at *
 go_enter Tryz.func170, Tryz.ntmps170
 go_wp2_with fail
 refine (LEN.out).mono ?_
 rintro e w' ⟨rfl, rfl⟩
 go_wp2
 go_loopw [5, 11] (fun lv iv wr => ∃ k : Nat, k ≤ n ∧ iv = .int .i64 k ∧ wr.ownsRow w.heap.size 248 2 lv (hitsTo L s.data.toList k).length (hcells (hitsTo L s.data.toList k)) ∧ Chg (fun _ => False) w wr) (fun _ iv _ => n - (intOf iv).toNat)
 case atStart => exact ⟨0, by omega, rfl, World.ownsRow_nil _ _ _ _, Chg.refl _ _⟩
 case round =>
  obtain ⟨k, hk, rfl, ho, hc⟩ := hrel
  have HO := Lib.hid ho
  have HC := Lib.hid hc
  clear ho hc
  by_cases hlt : k < n
  ·have hS := HS.out k
   have hln := HLN.out k
   have hhl := HHL.out k
   have HE1 := Lib.hid (HERE.out wr (H.out.chg HC.out) k hlt)
   have HSK := Lib.hid hS
   clear hS
   generalize hereL L s.data.toList k = R at *
   generalize hitsTo L s.data.toList k = T at *
   have hT : T.length ≤ 82000 := Nat.le_trans hln (Nat.le_trans (Nat.mul_le_mul (by omega : k ≤ 200) hL) (by omega))
   go_wp2_with fail
   refine (HE1.out).mono ?_
   rintro e w1 ⟨v1, rfl, o1, c1⟩
   have O1 := Lib.hid o1
   have C1 := Lib.hid (HC.out.trans c1)
   have OL := Lib.hid (own_chg HO.out c1 (fun _ _ e => e))
   have hap : Apart u5 v1 := fun x hx hu => by have := (HO.out.lt x hx).2; have := (o1.lt x hu).1; omega
   have HAP := Lib.hid hap
   have hw1 : w.heap.size ≤ w1.heap.size := C1.out.size
   obtain ⟨ra, rc, rfl, hrl, _⟩ := own_ints o1
   clear o1 c1 hap HO HC HE1
   unfold maxLen at hrl
   go_wp2
   go_loopw [5, 19] (fun lv iv wq => ∃ m : Nat, m ≤ R.length ∧ iv = .int .i64 m ∧ wq.ownsRow w.heap.size 248 2 lv (T ++ (R.take m).map fun i => (k, i)).length (hcells (T ++ (R.take m).map fun i => (k, i))) ∧ wq.ownsRow wr.heap.size 3 1 (.slice ra R.length rc) R.length (ints R) ∧ Apart lv (.slice ra R.length rc) ∧ Chg (fun _ => False) w wq) (fun _ iv _ => R.length - (intOf iv).toNat)
   case atStart => exact ⟨0, by omega, rfl, by simpa using OL.out, O1.out, HAP.out, C1.out⟩
   case round =>
    obtain ⟨m, hm, rfl, ho, hr, ha, hc⟩ := hrel
    have HO := Lib.hid ho
    have HR := Lib.hid hr
    have HA := Lib.hid ha
    have HC := Lib.hid hc
    clear O1 OL HAP C1
    by_cases hlt2 : m < R.length
    ·obtain ⟨x, hx⟩ : ∃ x, R[m]? = some x := ⟨_, List.getElem?_eq_getElem hlt2⟩
     obtain ⟨ra', rc', he, _, hcl⟩ := own_ints hr
     cases he
     obtain ⟨g, rfl, hg, cx⟩ := hcl m x hx
     have hlen : (T ++ (R.take m).map fun i => (k, i)).length ≤ 82410 := by rw [List.length_append, List.length_map, List.length_take]; omega
     have TS := Lib.hid (show hcells (T ++ (R.take (m + 1)).map fun i => (k, i)) = hcells (T ++ (R.take m).map fun i => (k, i)) ++ [.int .i64 (k : Int), .int .i64 (x : Int)] by
      have e : R.take (m + 1) = R.take m ++ [x] := by
       rw [List.take_succ_eq_append_getElem hlt2]
       rw [List.getElem?_eq_getElem hlt2] at hx
       rw [Option.some.inj hx]
      rw [e, List.map_append, ← List.append_assoc, hcells_append]; rfl)
     have TL := Lib.hid (show (T ++ (R.take (m + 1)).map fun i => (k, i)).length = (T ++ (R.take m).map fun i => (k, i)).length + 1 by
      simp only [List.length_append, List.length_map, List.length_take]; omega)
     generalize (T ++ (R.take m).map fun i => (k, i)) = T1 at *
     have hcs := hc.size
     clear ho hr ha hc hcl hx
     go_wp2_with (at_builtin; refine wpList_pushF rfl (.tmp 23) (.tmp 27) 245 rfl 248 2 16 Tryz.underlying245 Tryz.elemHit w.heap.size _ _ _ rfl (HO.out.alloc _) _ [.int .i64 (k : Int), .int .i64 (x : Int)] 248 (0, 0) rfl (obj_alloc_new _ _) rfl ?c1 ?c2 ?c3 ?c4 ?next)
     case c1 => intro u hu; simp at hu; rcases hu with rfl | rfl <;> rfl
     case c2 => omega
     case c3 => unfold maxLen; omega
     case c4 => simp; omega
     case next =>
      intro v' w5 o5 g5 s5
      have C5 := Lib.hid ((HC.out.alloc (.cells #[.int .i64 (k : Int), .int .i64 (x : Int)] 248)).own (HO.out.alloc _) (Chg.of_grown g5))
      have R5 := Lib.hid (own_kept (HR.out.alloc (.cells #[.int .i64 (k : Int), .int .i64 (x : Int)] 248)) g5 HA.out)
      have A5 := Lib.hid (apart_grown HA.out s5 (HR.out.alloc _))
      rw [← TS.out, ← TL.out] at o5
      have O5 := Lib.hid o5
      clear o5 g5 s5
      go_wp2
      go_roundw
      case rel => exact ⟨m + 1, by omega, by go_num, O5.out, R5.out, A5.out, C5.out⟩
      case measure => simp [intOf]; omega
    ·obtain rfl : m = R.length := by omega
     rw [List.take_length, ← HSK.out] at HO
     have hdm : decide (R.length < R.length) = false := by simp
     clear ho hr ha hc hlt2
     go_wp2
     go_roundw
     case rel => exact ⟨k + 1, by omega, by go_num, HO.out, HC.out⟩
     case measure => simp [intOf]; omega
  ·obtain rfl : k = n := by omega
   go_wp2
   go_ret
   exact ⟨_, rfl, HO.out, HC.out⟩
end Go.Proofs.YthdfplafihmejaaGreat
