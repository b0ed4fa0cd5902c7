/-
  Sets of words: Less, May, Has, Equal, of the program and of the reference. slices.Sort at []int: by the shelf's contract, over a row of the call's own. Where words stand: what the machine collects at a place, sorted, is the list of the words that begin there. Package match: here. Package match: All, First, Len.
-/
import Derived.Test.YthdfplafihmejaaGreatZcMMach1
import Derived.Ground.NamesProg
import Derived.Shelf.Lay
import Derived.Shelf.Sort.Plain
import Derived.Shelf.Slices.In.SortNone
import Derived.Laws.AppendOwnNone
namespace Go.Proofs.YthdfplafihmejaaGreat
open Go.RowKit Go.Maps
def ZF (a b : Wd) : Bool := if a.length = b.length then Op.bytesLess a b else decide (a.length < b.length)
theorem zcE (w : World) (a b : ByteArray) :
  Calls Tryz.prog 87 #[.string a, .string b] w fun e w' => e = .returned (.bool (ZF a.data.toList b.data.toList)) ∧ w = w' := by
 by_cases h : a.size = b.size
 ·have RES := zb (show ZF a.data.toList b.data.toList = Op.bytesLess a.toList b.toList by
   unfold ZF;rw [zv, zv, if_pos h, ByteArray.toList_eq, ByteArray.toList_eq])
  have hne : ((a.size : Int) != (b.size : Int)) = false := by rw [bne_eq_false_iff_eq]; omega
  have hne2 : ((a.size : Int) == (b.size : Int)) = true := by rw [beq_iff_eq]; omega
  clear h;go_enter Tryz.func87, Tryz.ntmps87;go_wp2;go_ret;exact ⟨by rw [RES.out]; rfl, rfl⟩
 ·have RES := zb (show ZF a.data.toList b.data.toList = decide (a.size < b.size) by
   unfold ZF;rw [zv, zv, if_neg h])
  have hne : ((a.size : Int) != (b.size : Int)) = true := by rw [bne_iff_ne]; omega
  have hne2 : ((a.size : Int) == (b.size : Int)) = false := by rw [beq_eq_false_iff_ne]; omega
  clear h;go_enter Tryz.func87, Tryz.ntmps87;go_wp2;go_ret;exact ⟨by rw [RES.out]; rfl, rfl⟩
theorem zke {a b : Wd} {i : Nat} {x y : UInt8} (hx : a[i]? = some x) (hy : b[i]? = some y) : Op.bytesLess (a.drop i) (b.drop i) = if x = y then Op.bytesLess (a.drop (i + 1)) (b.drop (i + 1)) else decide (x.toNat < y.toNat) := by
 have ha := (List.getElem?_eq_some_iff.1 hx);have hb := (List.getElem?_eq_some_iff.1 hy);obtain ⟨ha1, ha2⟩ := ha;obtain ⟨hb1, hb2⟩ := hb;rw [List.drop_eq_getElem_cons ha1, List.drop_eq_getElem_cons hb1, ha2, hb2];show (decide (x < y) || (x == y && Op.bytesLess _ _)) = _;by_cases h : x = y
 ·subst h
  rw [if_pos rfl];simp
 ·rw [if_neg h]
  rw [beq_eq_false_iff_ne.2 h, Bool.false_and, Bool.or_false];rfl
theorem zkJ {s : ByteArray} {i : Nat} (h : i < s.size) : s.data.toList[i]? = some s[i] := by
 rw [List.getElem?_eq_getElem (by rw [zv]; exact h)]; rfl
def zec (l : List Wd) : Prop := 1 <= l.length ∧ l.length <= 16 ∧ ∀ j, j < l.length -> Zm (l.getD j []) = true ∧ (0 < j -> ZF (l.getD (j - 1) []) (l.getD j []) = true)
instance (l : List Wd) : Decidable (zec l) := by unfold zec; infer_instance
def XR (l : List ByteArray) : Bool := decide (zec (Zp l))
theorem xh {l : List ByteArray} {j : Nat} {x : ByteArray} (h : l[j]? = some x) : (Zp l).getD j [] = x.data.toList := by
 unfold Zp;rw [List.getD_eq_getElem?_getD, List.getElem?_map, h]; rfl
theorem Zf (l : List ByteArray) : (Zp l).length = l.length := by unfold Zp; rw [List.length_map]
theorem ZR {w w' : World} {p : Addr} {v : Value} (h : Zv w w') (hc : w.cell? p = some v) : w'.cell? p = some v := by
 obtain ⟨n, rfl⟩ := h; exact hc
set_option maxHeartbeats 1000000 in
set_option maxRecDepth 100000 in
theorem zaq (w : World) (v : Value) (G : Nat -> Prop) (l : List ByteArray) (hv : zu w v G l) :
  Calls Tryz.prog 58 #[v] w fun e w' => e = .returned (.bool (XR l)) ∧ Zv w w' := by
 obtain ⟨la, cap, rfl, hl0, hcl⟩ := hv;have HCL := zb hcl;unfold maxLen at hl0;clear hcl;have NO := zb (show ∀ h : ¬ zec (Zp l), XR l = false from fun h => decide_eq_false h);by_cases h1 : l.length < 1
 ·have R := zb (NO.out (fun q => by have := q.1; rw [Zf] at this; omega))
  have g1 : decide ((l.length : Int) < 1) = true := by rw [decide_eq_true_eq]; omega
  go_enter Tryz.func58, Tryz.ntmps58;go_wp2;go_ret;exact ⟨by rw [R.out]; rfl, Zv.refl _⟩
 have g1 : decide ((l.length : Int) < 1) = false := by rw [decide_eq_false_iff_not]; omega
 by_cases h2 : 16 < l.length
 ·have R := zb (NO.out (fun q => by have := q.2.1; rw [Zf] at this; omega))
  have g2 : decide (16 < (l.length : Int)) = true := by rw [decide_eq_true_eq]; omega
  go_enter Tryz.func58, Tryz.ntmps58;go_wp2;go_ret;exact ⟨by rw [R.out]; rfl, Zv.refl _⟩
 have g2 : decide (16 < (l.length : Int)) = false := by rw [decide_eq_false_iff_not]; omega
 go_enter Tryz.func58, Tryz.ntmps58;go_wp2;go_loopw [15] (fun iv wr => ∃ k : Nat, k <= l.length ∧ iv = .int .i64 k ∧ Hid ((∀ j, j < k -> Zm ((Zp l).getD j []) = true ∧ (0 < j -> ZF ((Zp l).getD (j - 1) []) ((Zp l).getD j []) = true)) ∧ Zv w wr)) (fun iv _ => l.length - (intOf iv).toNat)
 case atStart => exact ⟨0, by omega, rfl, zb ⟨fun j hj => by omega, Zv.refl _⟩⟩
 case round =>
  obtain ⟨k, hk, rfl, HI⟩ := hrel;by_cases hlt : k < l.length
  ·obtain ⟨x, hx⟩ : ∃ x, l[k]? = some x := ⟨_, List.getElem?_eq_getElem hlt⟩
   obtain ⟨lb, lo, rfl, _, c0', hxm⟩ := HCL.out k x hx;have c0 := ZR HI.out.2 c0';have GX := zb (xh hx);have DR := zb HI.out.2;have PRE := zb HI.out.1;have MA := zb (zho wr x hxm);clear c0' HI hx;cases hm : Zm x.data.toList with
   | false =>
    rw [hm] at MA;have R := zb (NO.out (fun q => by have := (q.2.2 k (by rw [Zf]; exact hlt)).1; rw [GX.out, hm] at this; cases this));clear hm;go_wp2_with fail;(with_reducible refine MA.out.mono ?_);rintro e w1 ⟨rfl, d1⟩;go_wp2;go_ret;exact ⟨by rw [R.out]; rfl, DR.out.trans d1⟩
   | true =>
    rw [hm] at MA;by_cases hk0 : k = 0
    ·have g3 : decide (0 < (k : Int)) = false := by rw [decide_eq_false_iff_not]; omega
     have g4 : decide (0 < k) = false := by rw [decide_eq_false_iff_not]; omega
     have PR := zb (show ∀ j, j < k + 1 -> Zm ((Zp l).getD j []) = true ∧ (0 < j -> ZF ((Zp l).getD (j - 1) []) ((Zp l).getD j []) = true) from fun j hj => by
      obtain rfl : j = k := by omega
      exact ⟨by rw [GX.out]; exact hm, fun h => by omega⟩)
     clear hm hk0;go_wp2_with fail;(with_reducible refine MA.out.mono ?_);rintro e w1 ⟨rfl, d1⟩;have D1 := zb (DR.out.trans d1);clear d1;go_wp2;go_roundw
     case rel => exact ⟨k + 1, by omega, by go_num, zb ⟨PR.out, D1.out⟩⟩
     case measure => simp [intOf]; omega
    ·obtain ⟨y, hy⟩ : ∃ y, l[k - 1]? = some y := ⟨_, List.getElem?_eq_getElem (by omega)⟩
     obtain ⟨lb', lo', e1, _, c1', hym⟩ := HCL.out (k - 1) y hy;cases e1;have GY := zb (xh hy);obtain ⟨n, hn⟩ : ∃ n, n = k - 1 := ⟨_, rfl⟩;rw [<- hn] at c1' GY;have c1 := ZR DR.out c1';have g3 : decide (0 < (k : Int)) = true := by rw [decide_eq_true_eq]; omega
     have g4 : decide (0 < k) = true := by rw [decide_eq_true_eq]; omega
     have hnk : (k : Int) - 1 = (n : Int) := by omega
     have hnl : n < l.length := by omega
     have HN := zb hn;have LS := zb (fun w => zcE w y x);have HM := zb hm;clear hy hn c1' hm;cases hl : ZF y.data.toList x.data.toList with
     | false =>
      rw [hl] at LS;have R := zb (NO.out (fun q => by have := (q.2.2 k (by rw [Zf]; exact hlt)).2 (by omega); rw [GX.out, <- HN.out, GY.out, hl] at this; cases this));clear hl;go_wp2_with fail;(with_reducible refine MA.out.mono ?_);rintro e w1 ⟨rfl, d1⟩;have c2 := ZR d1 c1;have D1 := zb (DR.out.trans d1);clear d1;go_wp2_with fail;(with_reducible refine (LS.out _).mono ?_);rintro e w2 ⟨rfl, rfl⟩;go_wp2;go_ret;exact ⟨by rw [R.out]; rfl, D1.out⟩
     | true =>
      rw [hl] at LS
      have PR := zb (show ∀ j, j < k + 1 -> Zm ((Zp l).getD j []) = true ∧ (0 < j -> ZF ((Zp l).getD (j - 1) []) ((Zp l).getD j []) = true) from fun j hj => by
       rcases Nat.lt_or_ge j k with q | q
       ·exact PRE.out j q
       ·obtain rfl : j = k := by omega
        exact ⟨by rw [GX.out]; exact HM.out, fun _ => by rw [GX.out, <- HN.out, GY.out]; exact hl⟩)
      clear hl;go_wp2_with fail;(with_reducible refine MA.out.mono ?_);rintro e w1 ⟨rfl, d1⟩;have c2 := ZR d1 c1;have D1 := zb (DR.out.trans d1);clear d1;go_wp2_with fail;(with_reducible refine (LS.out _).mono ?_);rintro e w2 ⟨rfl, rfl⟩;go_wp2;go_roundw
      case rel => exact ⟨k + 1, by omega, by go_num, zb ⟨PR.out, D1.out⟩⟩
      case measure => simp [intOf]; omega
  ·obtain rfl : k = l.length := by omega
   have R := zb (show XR l = true from decide_eq_true ⟨by rw [Zf]; omega, by rw [Zf]; omega, fun j hj => HI.out.1 j (by rw [Zf] at hj; exact hj)⟩);go_wp2;go_ret;exact ⟨by rw [R.out]; rfl, HI.out.2⟩
instance : LawfulBEq ByteArray where
 eq_of_beq {a b} h := ByteArray.ext (eq_of_beq (show (a.data == b.data) = true from h))
 rfl {a} := (beq_self_eq_true a.data : (a.data == a.data) = true)
theorem YK (a b : ByteArray) : (a.toList == b.toList) = decide (a = b) := by
 rw [ByteArray.toList_eq, ByteArray.toList_eq, Bool.eq_iff_iff, beq_iff_eq, decide_eq_true_eq];exact ⟨fun h => ByteArray.ext (Array.ext' h), fun h => by rw [h]⟩
theorem zhv (a b : ByteArray) : (a.toList != b.toList) = !decide (a = b) := by unfold bne; rw [YK]
def zgb (l : List ByteArray) (x : ByteArray) : Int := if x ∈ l then (l.idxOf x : Nat) else -1
theorem zki {α : Type} [BEq α] [LawfulBEq α] {l : List α} {x : α} {k : Nat} (h : l[k]? = some x) (hn : ∀ j, j < k -> l[j]? ≠ some x) : x ∈ l ∧ l.idxOf x = k := by
 have hm := List.mem_of_getElem? h;have h1 := List.idxOf_lt_length_of_mem hm;have h2 := List.getElem_idxOf h1;refine ⟨hm, ?_⟩;rcases Nat.lt_trichotomy (l.idxOf x) k with q | q | q
 ·exact absurd (by rw [List.getElem?_eq_getElem h1, h2]) (hn _ q)
 ·exact q
 ·have hk := (List.getElem?_eq_some_iff.1 h).1
  have := List.not_of_lt_findIdx (p := (· == x)) q;rw [List.getElem?_eq_getElem hk] at h;rw [Option.some.inj h] at this;simp at this
theorem zcx {α : Type} {l : List α} {x : α} (hn : ∀ j, j < l.length -> l[j]? ≠ some x) : x ∉ l := by
 intro h;obtain ⟨j, hj⟩ := List.mem_iff_getElem?.1 h;exact hn j (List.getElem?_eq_some_iff.1 hj).1 hj
def zaM (l : List ByteArray) (x : ByteArray) : Bool := decide (x ∈ l)
def zbj (l m : List ByteArray) : Bool := decide (l = m)
theorem zjH {l m : List ByteArray} (hl : l.length = m.length) (h : ∀ j, j < l.length -> l[j]? = m[j]?) : l = m := by
 apply List.ext_getElem?;intro j;rcases Nat.lt_or_ge j l.length with q | q
 ·exact h j q
 ·rw [List.getElem?_eq_none q, List.getElem?_eq_none (by omega)]
end Go.Proofs.YthdfplafihmejaaGreat
namespace Go.Proofs
open Go.Shelf
shelf_lay Lays.n189 Nm 189 at Tryz as Tryz.laysSort
end Go.Proofs
namespace Go.Proofs.YthdfplafihmejaaGreat
open Go.RowKit Go.Shelf Go.Sort
def Xz (l : List Nat) : List Nat := l.mergeSort fun x y => decide (x <= y)
theorem zaU (l : List Nat) : (Xz l).Perm l := List.mergeSort_perm l _
theorem Xl (l : List Nat) : (Xz l).length = l.length := (zaU l).length_eq
theorem zcP (l : List Nat) : (Xz l).Pairwise (· <= ·) := by
 have := List.pairwise_mergeSort (le := fun x y : Nat => decide (x <= y)) (fun a b c => by simp; omega) (fun a b => by simp; omega) l;exact this.imp (fun h => by simpa using h)
theorem zgx (l : List Nat) : ((l.map fun (n : Nat) => (n : Int)).mergeSort fun x y => decide (x <= y)).map (Value.int .i64) = yP (Xz l) := by
 unfold Xz yP;rw [<- List.map_mergeSort (r := fun x y : Nat => decide (x <= y)) (s := fun x y : Int => decide (x <= y)) (f := fun (n : Nat) => (n : Int)) (fun a _ b _ => by rw [decide_eq_decide]; omega), List.map_map]; rfl
theorem zfb {w : World} {g n : Nat} {e : TypeId} {cur : Array Value} (ys : List Int) (hg : w.heap[g]? = some (.cells cur e (0, 0))) (hy : ys.length = n) (hc : n <= cur.size) (q : Nat) (os : Array Obj) :
  (grow (putRow (Value.int .i64) (Sort.ahead w q) g 0 ys.toArray) os).heap[g]? = some (.cells ((ys.map (Value.int .i64)) ++ cur.toList.drop n).toArray e (0, 0)) ∧ Chg (· = g) w (grow (putRow (Value.int .i64) (Sort.ahead w q) g 0 ys.toArray) os) := by
 have hlt := zq hg
 have h1 : (putRow (Value.int .i64) (Sort.ahead w q) g 0 ys.toArray).heap[g]? = some (.cells (putCells (Value.int .i64) 0 ys.toArray cur) e (0, 0)) := by
  show (w.heap.modify g (onCells _))[g]? = _;rw [Array.getElem?_modify, if_pos rfl, hg]; rfl
 have h2 : putCells (Value.int .i64) 0 ys.toArray cur = ((ys.map (Value.int .i64)) ++ cur.toList.drop n).toArray := by
  apply Array.ext
  ·simp [putCells]; omega
  ·intro i h3 h4
   simp only [putCells, Array.size_mapIdx] at h3;simp only [putCells, Array.getElem_mapIdx, List.getElem_toArray];by_cases hi : i < n
   ·rw [if_pos ⟨by omega, by simp; omega⟩, List.getElem_append_left (by simp; omega)]
    simp [hy, hi]
   ·rw [if_neg (by simp; omega), List.getElem_append_right (by simp; omega)]
    simp [hy]
    congr 1; omega
 refine ⟨?_, ?_⟩
 ·rw [heap_grow_old _ os (by rw [size_putRow]; exact hlt), h1, h2]
 ·have hz := size_putRow (Value.int .i64) (Sort.ahead w q) g 0 ys.toArray
  refine ⟨rfl, rfl, rfl, by rw [grow, Array.size_append, hz]; show w.heap.size <= w.heap.size + os.size; omega, fun k hk hne => ?_⟩;rw [heap_grow_old _ os (by rw [size_putRow]; exact hk)];show (w.heap.modify g (onCells _))[k]? = _;rw [Array.getElem?_modify, if_neg (fun e => hne e.symm)]
theorem zhw (w : World) (base : Nat) (v : Value) (l : List Nat) (h : w.ownsRow base 3 1 v l.length (yP l)) (hl : l.length <= 1000000) :
  Calls Tryz.prog 188 #[v] w fun e w' => e = .returned (.tuple #[]) ∧ w'.ownsRow base 3 1 v l.length (yP (Xz l)) ∧ Chg (fun x => v.ownBlock = some x) w w' := by
 have h0 := h;obtain ⟨h1, ⟨rfl, h2⟩ | ⟨g, cap, cur, rfl, hg, hh, q1, q2, q3, q4⟩⟩ := h
 ·refine (Any.slices_Sort_int_none Tryz.laysSort none 0 w).mono ?_
  rintro e w' ⟨rfl, rfl⟩;have : l = [] := List.eq_nil_of_length_eq_zero h2;subst this;exact ⟨rfl, by simpa [Xz] using h0, Chg.refl _ _⟩
 ·have hcs : cur.size = cap := by omega
  have e1 : (l.map fun (n : Nat) => (n : Int)).length = l.length := List.length_map ..
  have hH : Holds (Value.int .i64) w g 0 (l.map fun (n : Nat) => (n : Int)).toArray := by
   intro j hj;have hj : j < l.length := by simpa using hj
   refine ⟨?_, zk hh⟩;rw [Nat.zero_add];have := h0.cellAt (j := j) (by omega);rw [this];unfold yP;rw [List.getElem?_map, List.getElem?_eq_getElem hj, getElem!_pos _ j (by simpa using hj)];simp
  have hs := Any.slices_Sort_int Tryz.laysSort g 0 cap (l.map fun (n : Nat) => (n : Int)) w hH (zq hh) (by rw [e1]; omega);rw [e1] at hs;refine Calls.mono hs ?_;rintro e w' ⟨rfl, q, os, rfl⟩;have hyl : ((l.map fun (n : Nat) => (n : Int)).mergeSort fun x y => decide (x <= y)).length = l.length := by rw [List.length_mergeSort, e1]
  obtain ⟨r1, r2⟩ := zfb _ hh hyl (by omega) q os;rw [zgx] at r1;have il : (yP (Xz l)).length = l.length := by unfold yP; rw [List.length_map, Xl]
  refine ⟨rfl, ⟨by rw [il]; omega, .inr ⟨g, cap, _, rfl, hg, r1, q1, q2, ?_, ?_⟩⟩, r2.mono (fun x _ e => by rw [e]; rfl)⟩
  ·simp [il]; omega
  ·rw [Nat.mul_one, List.take_append_of_le_length (by rw [il]; exact Nat.le_refl _), List.take_of_length_le (by rw [il]; exact Nat.le_refl _)]
def zao (wh : List Nat -> List Nat) (A : List Nat) : Nat -> List Nat
 | 0 => []
 | j + 1 => zao wh A j ++ wh (A.take (j + 1))
theorem zbB {wh : List Nat -> List Nat} {A : List Nat} : ∀ {j i : Nat}, i ∈ zao wh A j ↔ ∃ t, 1 <= t ∧ t <= j ∧ i ∈ wh (A.take t)
 | 0, i => by simp [zao]; intro t h1 h2; omega
 | j + 1, i => by
  rw [zao, List.mem_append, zbB];constructor
  ·rintro (⟨t, h1, h2, h3⟩ | h)
   ·exact ⟨t, h1, by omega, h3⟩
   ·exact ⟨j + 1, by omega, by omega, h⟩
  ·rintro ⟨t, h1, h2, h3⟩
   rcases Nat.lt_or_ge j t with q | q
   ·obtain rfl : t = j + 1 := by omega
    exact .inr h3
   ·exact .inl ⟨t, h1, q, h3⟩
theorem xn {l : List (List UInt8)} {n i : Nat} {q : List Nat} : i ∈ Za l n q ↔ i < n ∧ Zm (l.getD i []) = true ∧ zI (l.getD i []) = q := by
 unfold Za; simp [List.mem_filter]
theorem zei (l : List (List UInt8)) (n : Nat) (q : List Nat) : (Za l n q).Nodup := List.Pairwise.filter _ List.nodup_range
theorem za8 (l : List (List UInt8)) (n : Nat) (A : List Nat) : ∀ j, j <= A.length -> (zao (Za l n) A j).Nodup
 | 0, _ => by simp [zao]
 | j + 1, hj => by
  rw [zao, List.nodup_append];refine ⟨za8 l n A j (by omega), zei l n _, fun a ha b hb => ?_⟩;rintro rfl;obtain ⟨t, h1, h2, h3⟩ := zbB.1 ha;have e1 := (xn.1 h3).2.2;have e2 := (xn.1 hb).2.2;have := congrArg List.length (e1.symm.trans e2);simp only [List.length_take] at this;omega
theorem zf6 (l : List (List UInt8)) (n : Nat) (A : List Nat) (j : Nat) (hj : j <= A.length) : (zao (Za l n) A j).length <= n := by
 have hn := za8 l n A j hj
 have hs : zao (Za l n) A j ⊆ List.range n := fun i hi => by
  obtain ⟨t, _, _, h3⟩ := zbB.1 hi;exact List.mem_range.2 (xn.1 h3).1
 have := hn.length_le_of_subset hs
 simpa using this
theorem zge.take {ps : List (List Nat)} (h : zge ps) (A : List Nat) : ∀ (d j : Nat), A.take (j + d) ∈ ps -> A.take j ∈ ps
 | 0, j, hm => hm
 | d + 1, j, hm => by
  rcases Nat.lt_or_ge (j + d) A.length with q | q
  ·refine zge.take h A d j ?_
   have : A.take (j + (d + 1)) = A.take (j + d) ++ [A[j + d]] := by
    rw [show j + (d + 1) = j + d + 1 from by omega, List.take_succ_eq_append_getElem q]
   rw [this] at hm;exact h.down _ _ hm
  ·refine zge.take h A d j ?_
   rw [List.take_of_length_le q];rw [List.take_of_length_le (by omega)] at hm;exact hm
theorem zbe : ∀ {a b : List Nat}, a.Pairwise (· <= ·) -> b.Pairwise (· <= ·) -> a.Nodup -> b.Nodup -> (∀ x, x ∈ a ↔ x ∈ b) -> a = b
 | [], [], _, _, _, _, _ => rfl
 | [], y :: b, _, _, _, _, h => by have := (h y).2 (by simp); simp at this
 | x :: a, [], _, _, _, _, h => by have := (h x).1 (by simp); simp at this
 | x :: a, y :: b, ha, hb, na, nb, h => by
  rw [List.pairwise_cons] at ha hb;rw [List.nodup_cons] at na nb
  have hxy : x = y := by
   have h1 : x ∈ y :: b := (h x).1 (by simp);have h2 : y ∈ x :: a := (h y).2 (by simp);rw [List.mem_cons] at h1 h2;rcases h1 with h1 | h1
   ·exact h1
   ·rcases h2 with h2 | h2
    ·exact h2.symm
    ·have := hb.1 x h1; have := ha.1 y h2; omega
  subst hxy
  congr 1
  refine zbe ha.2 hb.2 na.2 nb.2 (fun z => ?_);have := h z;rw [List.mem_cons, List.mem_cons] at this;constructor
  ·intro hz
   rcases this.1 (.inr hz) with rfl | q
   ·exact absurd hz na.1
   ·exact q
  ·intro hz
   rcases this.2 (.inr hz) with rfl | q
   ·exact absurd hz nb.1
   ·exact q
theorem zlW (l : List (List UInt8)) (w : List UInt8) (place j : Nat) (hj : j <= ((zI w).drop place).length) (hs : j = ((zI w).drop place).length ∨ ((zI w).drop place).take (j + 1) ∉ Ze l l.length) :
  Xz (zao (Za l l.length) ((zI w).drop place) j) = zbU l w place := by
 have np : (zao (Za l l.length) ((zI w).drop place) j).Nodup := za8 _ _ _ _ hj;refine zbe (zcP _) ?_ ((zaU _).nodup_iff.2 np) (List.Pairwise.filter _ List.nodup_range) (fun i => ?_)
 ·exact (List.Pairwise.filter _ List.pairwise_lt_range).imp (fun h => Nat.le_of_lt h)
 ·rw [(zaU _).mem_iff, zbB]
  unfold zbU xq;simp only [List.mem_filter, List.mem_range, Bool.and_eq_true, List.isPrefixOf_iff_prefix];constructor
  ·rintro ⟨t, h1, h2, h3⟩
   obtain ⟨q1, q2, q3⟩ := xn.1 h3;exact ⟨q1, q2, by rw [q3]; exact List.take_prefix _ _⟩
  ·rintro ⟨q1, q2, q3⟩
   have hl : 1 <= (zI (l.getD i [])).length := by rw [zJ]; exact ((Zc _).1 q2).2.1
   have ht : ((zI w).drop place).take (zI (l.getD i [])).length = zI (l.getD i []) := (List.prefix_iff_eq_take.1 q3).symm;refine ⟨(zI (l.getD i [])).length, hl, ?_, xn.2 ⟨q1, q2, ht.symm⟩⟩;have hle := q3.length_le;rcases hs with hs | hs
   ·omega
   ·rcases Nat.lt_or_ge j (zI (l.getD i [])).length with q | q
    ·exfalso
     apply hs;have hm := zaX l l.length i q1 q2;refine (Ya l l.length).take ((zI w).drop place) ((zI (l.getD i [])).length - (j + 1)) (j + 1) ?_;rw [show j + 1 + ((zI (l.getD i [])).length - (j + 1)) = (zI (l.getD i [])).length from by omega, ht];exact hm
    ·exact q
open Go.Maps
theorem zdD (l : List UInt8) {place j : Nat} (h : place + j < zt l) : ((zI l).drop place).take (j + 1) = ((zI l).drop place).take j ++ [zD l (place + j)] := by
 have hl : j < ((zI l).drop place).length := by rw [List.length_drop, zJ]; omega
 rw [List.take_succ_eq_append_getElem hl]
 congr 2
 have := ZW l h;rw [List.getElem_drop];rw [List.getElem?_eq_getElem (by rw [zJ]; exact h)] at this;exact Option.some.inj this
theorem zl4 (l : List UInt8) (place : Nat) : ((zI l).drop place).length = zt l - place := by rw [List.length_drop, zJ]
theorem zaR {P : Program} {w : World} {ops : Array Oper} {rest : List Oper} {o : Oper} {a : Act} {Q : Exit -> Act -> World -> Prop} (hgd : o.guard = none) (s x : Operand) (t : TypeId)
  (ho : o.op = .call { callee := .builtin .append, args := #[s, x], argTypes := #[t, t] }) (e : TypeId) (size bytes : Nat) (ht : P.underlying t = some (.slice e)) (hE : Zl P e size bytes)
  (base : Nat) (v : Value) (n : Nat) (xs : List Value) (hs : a.eval s = v) (hown : w.ownsRow base e size v n xs)
  (base2 : Nat) (u : Value) (m : Nat) (ys : List Value) (hx : a.eval x = u) (hu : w.ownsRow base2 e size u m ys) (h1 : ∀ z ∈ ys, z.oneCell' = true)
  (hbytes : (n + m) * bytes <= 140737488355328) (h63 : n + m <= maxLen) (hbase : base <= w.heap.size)
  (h : ∀ v' w', w'.ownsRow base e size v' (n + m) (xs ++ ys) -> w.grownBy w' v.ownBlock -> wpList P ops Q rest (a.put o.dst v') w') : wpList P ops Q (o :: rest) a w := by
 obtain ⟨i, z, hi, hz, q1, q2, q3, q4⟩ := hE;have hu0 := hu;obtain ⟨hl, ⟨rfl, rfl⟩ | ⟨g, cap, cur, rfl, hg, hh, r1, r2, r3, r4⟩⟩ := hu
 ·have : ys = [] := List.eq_nil_of_length_eq_zero (by simpa using hl)
  subst this;refine wpList_append_own_none hgd s x t ho base e i size ht hi v n xs hs hown hx ?_;exact h v w (by simpa using hown) ⟨rfl, rfl, rfl, Nat.le_refl _, fun _ _ _ => rfl⟩
 ·exact wpList_append_own w hgd s x t ho base e i z size bytes ht hi hz q1 q2 q3 q4 v n xs hs hown ⟨g, 0, none⟩ m cap ys hx hl (hu0.cells (g := g) rfl) h1 h63 hbytes hbase (fun v' w' h2 h3 _ => h v' w' h2 h3)
theorem zlS (l : List Nat) : ∀ v ∈ yP l, v.oneCell' = true := by
 intro v hv; simp [yP] at hv; obtain ⟨c, _, rfl⟩ := hv; rfl
theorem zg1 (a b : List Nat) : yP (a ++ b) = yP a ++ yP b := by unfold yP; rw [List.map_append]
theorem Chg.own {w w1 w2 : World} {v : Value} {e : TypeId} {size n : Nat} {xs : List Value} (h : Chg (fun _ => False) w w1) (ho : w1.ownsRow w.heap.size e size v n xs) (hc : Chg (fun x => v.ownBlock = some x) w1 w2) : Chg (fun _ => False) w w2 :=
 ⟨hc.os.trans h.os, hc.tape.trans h.tape, hc.output.trans h.output, Nat.le_trans h.size hc.size, fun i hi _ => by
  rw [hc.block i (by have := h.size; omega) (fun e => by have := (ho.lt i e).1; omega)]; exact h.block i hi (fun e => e)⟩
set_option maxHeartbeats 4000000 in
set_option maxRecDepth 100000 in
theorem zlX (w : World) (base : Nat) (B : MB) (cs : List (Value × Value)) (L : List (List UInt8)) (s : ByteArray) (place : Nat) (h : zX w base B cs (Ze L L.length) (Za L L.length)) (hs : s.size <= 400) (hp : place < zt s.data.toList) (hL : L.length <= 410) :
  Calls Tryz.prog 182 #[.pointer (some ⟨B.b, 0, none⟩), .string s, .int .i64 (place : Int)] w fun e w' => ∃ v, e = .returned v ∧ w'.ownsRow w.heap.size 3 1 v (zbU L s.data.toList place).length (yP (zbU L s.data.toList place)) ∧ Chg (fun _ => False) w w' := by
 have hsl := zv s;have LEN := zb (fun w => Zy w s (by unfold maxLen; omega));have AT := zb (fun w k hk => zhp w s k (by unfold maxLen; omega) hk);have hn2 : zt s.data.toList <= 200 := by unfold zt; omega
 have TK := zb (fun j hj => zdD s.data.toList (place := place) (j := j) hj);have AL := zb (zl4 s.data.toList place);have ALT := zb (fun k => yu s.data.toList k);have FIN := zb (fun j hj hq => zlW L s.data.toList place j hj hq);have ACL := zb (fun j hj => zf6 L L.length ((zI s.data.toList).drop place) j hj);have HT := zb (Ya L L.length);have H := zb h;have hpl := xV L L.length;clear hs hsl h;generalize zbU L s.data.toList place = res at *;generalize (zI s.data.toList).drop place = A at *;generalize Ze L L.length = P at *;generalize Za L L.length = wh at *;generalize zt s.data.toList = n at *;go_enter Tryz.func182, Tryz.ntmps182;go_wp2;go_loopw [7, 8, 9] (fun lv av iv wr => ∃ j : Nat, place + j <= n ∧ iv = .int .i64 ((place + j : Nat) : Int) ∧ Hid (A.take j ∈ P) ∧ av = .int .i64 ((P.idxOf (A.take j) : Nat) : Int) ∧ wr.ownsRow w.heap.size 3 1 lv (zao wh A j).length (yP (zao wh A j)) ∧ Chg (fun _ => False) w wr) (fun _ _ iv _ => n - (intOf iv).toNat)
 case atStart =>
  refine ⟨0, by omega, rfl, zb (by rw [List.take_zero]; exact HT.out.mem_nil), ?_, World.ownsRow_nil _ _ _ _, Chg.refl _ _⟩;rw [List.take_zero]
  have e0 : P.idxOf [] = 0 := by
   cases P with
   | nil => rfl
   | cons a r => have := HT.out.root; simp at this; subst this; simp
  rw [e0]; rfl
 case round =>
  obtain ⟨j, hj, rfl, PM, rfl, ho, hc⟩ := hrel;have HO := zb ho;have HC := zb hc;have acl := ACL.out j (by rw [AL.out]; omega);clear ho hc;by_cases hlt : place + j < n
  ·have hM := H.out.chg HC.out
   have TK1 := zb (TK.out j hlt);have hak := ALT.out (place + j);obtain ⟨i0, hi0⟩ : ∃ i0 : Nat, place + j = i0 := ⟨_, rfl⟩;rw [hi0] at hlt hak TK1 ⊢;have HI0 := zb hi0;generalize hav : zD s.data.toList i0 = ak at *;have HP := zb (zhR PM.out);obtain ⟨ix, hix⟩ : ∃ ix, P.idxOf (A.take j) = ix := ⟨_, rfl⟩;rw [hix] at HP ⊢;have hixl : ix < P.length := by rw [<- hix]; exact List.idxOf_lt_length_of_mem PM.out
   clear hix hi0;obtain ⟨c, hcc⟩ : ∃ c, cs[ix]? = some c := ⟨_, List.getElem?_eq_getElem (by rw [hM.len]; exact hixl)⟩;obtain ⟨mv, vv⟩ := c;have HCC := zb hcc;have hcl : ix < cs.length := by rw [hM.len]; exact hixl
   have cb : wr.cell? ⟨B.b, 0, none⟩ = some (.slice (some ⟨B.g, 0, none⟩) cs.length B.cap) := ze hM.hb rfl;have cm : wr.cell? ⟨B.g, ix * 2, none⟩ = some mv := (hM.mcell hcc).1;have HM := zb hM;have CLEN := zb hM.len;clear hM hcc;have b1 : (0 : Int) <= (ix : Int) := by omega
   have b2 : (ix : Int) < (cs.length : Int) := by omega
   go_wp2_with fail;refine (LEN.out wr).mono ?_;rintro e w' ⟨rfl, rfl⟩;go_wp2_with fail;refine zB (N := 50) [.rd [0, 1, 2, 3, 4, 5, 6, 7, 8, 9], .ef 10, .ef 11, .rd [12, 13, 14, 15, 16]] (fun w' => w'.cell? ⟨B.b, 0, none⟩ = some (.slice (some ⟨B.g, 0, none⟩) cs.length B.cap) ∧ w'.cell? ⟨B.g, ix * 2, none⟩ = some mv) (by kernel_rfl) (by kernel_rfl) (by kernel_rfl) (by kernel_rfl) (Nat.le_of_ble_eq_true rfl) ⟨cb, cm⟩ ?_;refine zH (A := ?A1) ?h1 ?h2
   case h1 =>
    intro w' hS K hK;obtain ⟨s1, s2⟩ := hS;simp only [zT, List.filterMap_cons, List.filterMap_nil, List.getElem?_toArray, List.getElem?_cons_succ, List.getElem?_cons_zero]
    repeat still_step
    refine wpStill_nil ?_;exact hK
   clear cb cm;refine zP rfl ?_;go_wp2_with fail;refine (AT.out _ i0 hlt).mono ?_;rintro e w2 ⟨rfl, c2⟩;rw [hav];have M2 := zb (HM.out.chg ((zK (fun _ => False) wr).trans c2));have C2 := zb (HC.out.trans ((zK (fun _ => False) wr).trans c2));have O2 := zb (zm HO.out ((zK (fun _ => False) wr).trans c2) (fun _ _ e => e));clear c2 HM HC HO hav;have cb : w2.cell? ⟨B.b, 0, none⟩ = some (.slice (some ⟨B.g, 0, none⟩) cs.length B.cap) := ze M2.out.hb rfl;have cm : w2.cell? ⟨B.g, ix * 2, none⟩ = some mv := (M2.out.mcell HCC.out).1;have EM := zb (M2.out.em ix _ _ HP.out HCC.out);go_wp2_with fail
   first | refine ⟨⟨cb, cm⟩, ?_⟩ | skip
   refine zP rfl ?_;refine Xh rfl (.tmp 27) (.tmp 30) rfl base P.length mv (yQ P (A.take j)) rfl EM.out ak hak rfl ?_;intro c hc;by_cases hin : A.take j ++ [ak] ∈ P
   ·have he : yQ P (A.take j) ak = some (P.idxOf (A.take j ++ [ak])) := by unfold yQ; rw [if_pos hin]
    have hc' := hc _ he;subst hc';rw [he];clear hc he;go_wp2_with fail;refine ⟨⟨cb, cm⟩, ?_⟩;refine zH (A := ?A2) ?h3 ?h4
    case h3 =>
     intro w' hS K hK;clear hS;simp only [zT, List.filterMap_cons, List.filterMap_nil, List.getElem?_toArray, List.getElem?_cons_succ, List.getElem?_cons_zero]
     repeat still_step
     refine wpStill_nil ?_;exact hK
    refine Zg ?_;rw [<- TK1.out];have hin' := hin;rw [<- TK1.out] at hin';have PM2 := zb hin';clear hin hin' cb cm EM HCC HP hcl b1 b2;have HP := zb (zhR PM2.out);obtain ⟨ix2, hix⟩ : ∃ ix2, P.idxOf (A.take (j + 1)) = ix2 := ⟨_, rfl⟩;rw [hix] at HP ⊢;have hixl : ix2 < P.length := by rw [<- hix]; exact List.idxOf_lt_length_of_mem PM2.out
    have HIX := zb hix;clear hix;obtain ⟨c, hcc⟩ : ∃ c, cs[ix2]? = some c := ⟨_, List.getElem?_eq_getElem (by rw [CLEN.out]; exact hixl)⟩;obtain ⟨mv2, vv2⟩ := c;have hcl : ix2 < cs.length := by rw [CLEN.out]; exact hixl
    have cb : w2.cell? ⟨B.b, 0, none⟩ = some (.slice (some ⟨B.g, 0, none⟩) cs.length B.cap) := ze M2.out.hb rfl;have cw : w2.cell? ⟨B.g, ix2 * 2 + 1, none⟩ = some vv2 := (M2.out.mcell hcc).2;have EW := zb (M2.out.ew ix2 _ _ HP.out hcc);have AC1 := zb (show zao wh A (j + 1) = zao wh A j ++ wh (A.take (j + 1)) from rfl);have acl2 := ACL.out (j + 1) (by rw [AL.out]; have := HI0.out; omega);rw [AC1.out, List.length_append] at acl2;have hsz := C2.out.size;clear hcc;go_wp2_with (at_builtin; refine zaR rfl (.tmp 37) (.tmp 45) 36 rfl 3 1 8 Tryz.underlying36 Tryz.elemInt w.heap.size _ _ _ rfl O2.out base _ _ _ rfl EW.out (zlS _) ?c1 ?c2 ?c3 ?next)
    case c1 => omega
    case c2 => unfold maxLen; omega
    case next =>
     intro v5 w5 o5 g5;have C5 := zb (C2.out.own O2.out (Chg.of_grown g5));rw [<- zg1, <- AC1.out, <- List.length_append, <- AC1.out] at o5;have O5 := zb o5;clear o5 g5;go_wp2;go_roundw
     case rel => exact ⟨j + 1, by have := HI0.out; omega, by rw [show place + (j + 1) = i0 + 1 from by have := HI0.out; omega]; go_num, PM2, by rw [HIX.out], O5.out, C5.out⟩
     case measure => simp [intOf]; omega
   ·have he : yQ P (A.take j) ak = none := by unfold yQ; rw [if_neg hin]
    rw [he];clear hc he;have FN := zb (FIN.out j (by rw [AL.out]; omega) (.inr (by rw [TK1.out]; exact hin)));have LR := zb (show (zao wh A j).length = res.length by rw [<- FN.out, Xl]);go_wp2_with fail;refine ⟨⟨cb, cm⟩, ?_⟩;refine zH (A := ?A5) ?h5 ?h6
    case h5 =>
     intro w' hS K hK;clear hS;simp only [zT, List.filterMap_cons, List.filterMap_nil, List.getElem?_toArray, List.getElem?_cons_succ, List.getElem?_cons_zero]
     repeat still_step
     refine wpStill_nil ?_;exact hK
    refine Zg ?_;have SORT := zb (zhw w2 w.heap.size _ _ O2.out (by omega));go_wp2_with fail;refine (SORT.out).mono ?_;rintro e w9 ⟨rfl, o9, c9⟩;have C9 := zb (C2.out.own O2.out c9);rw [FN.out] at o9;have O9 := zb o9;clear o9 c9;go_wp2;go_ret;exact ⟨_, rfl, by rw [<- LR.out]; exact O9.out, C9.out⟩
  ·have FN := zb (FIN.out j (by rw [AL.out]; omega) (.inl (by rw [AL.out]; omega)))
   have LR := zb (show (zao wh A j).length = res.length by rw [<- FN.out, Xl]);obtain ⟨i0, hi0⟩ : ∃ i0 : Nat, place + j = i0 := ⟨_, rfl⟩;rw [hi0] at hlt ⊢;clear hi0;have hd : decide (i0 < n) = false := by rw [decide_eq_false_iff_not]; exact hlt
   have SORT := zb (zhw wr w.heap.size _ _ HO.out (by omega));go_wp2_with fail;refine (LEN.out wr).mono ?_;rintro e w' ⟨rfl, rfl⟩;go_wp2_with fail;refine (SORT.out).mono ?_;rintro e w9 ⟨rfl, o9, c9⟩;have C9 := zb (HC.out.own HO.out c9);rw [FN.out] at o9;have O9 := zb o9;clear o9 c9;go_wp2;go_ret;exact ⟨_, rfl, by rw [<- LR.out]; exact O9.out, C9.out⟩
def yt (l : List (Nat × Nat)) : List Value := l.flatMap fun h => [.int .i64 (h.1 : Int), .int .i64 (h.2 : Int)]
theorem zbq (a b : List (Nat × Nat)) : yt (a ++ b) = yt a ++ yt b := by unfold yt; rw [List.flatMap_append]
theorem Tryz.elemHit : Zl Tryz.prog 248 2 16 := Zb (z := .agg #[.int .i64 0, .int .i64 0]) (by kernel_rfl) rfl (by decide)
theorem za6 {w : World} {base : Nat} {e : TypeId} {size n : Nat} {xs : List Value} {v v' u : Value} (h : zeT v u) (hs : Yp w v v') (hu : w.ownsRow base e size u n xs) : zeT v' u := by
 intro x hx hu';rcases hs with hs | hs
 ·rw [hs] at hx; exact h x hx hu'
 ·have := hs x hx; have := (hu.lt x hu').2; omega
theorem zev {w w' : World} {base : Nat} {e : TypeId} {size n : Nat} {xs : List Value} {v u : Value} (h : w.ownsRow base e size u n xs) (hg : w.grownBy w' v.ownBlock) (ha : zeT v u) : w'.ownsRow base e size u n xs :=
 zm h (Chg.of_grown hg) (fun k hk e => ha k e hk)
theorem zew {w : World} {base : Nat} {v : Value} {l : List Nat} (h : w.ownsRow base 3 1 v l.length (yP l)) : ∃ a cap, v = .slice a l.length cap ∧ l.length <= maxLen ∧ ∀ j (x : Nat), l[j]? = some x -> ∃ g, a = some ⟨g, 0, none⟩ ∧ base <= g ∧ w.cell? ⟨g, j, none⟩ = some (.int .i64 (x : Int)) := by
 have h0 := h;obtain ⟨h1, ⟨rfl, h2⟩ | ⟨g, cap, cur, rfl, hg, hh, q1, q2, q3, q4⟩⟩ := h
 ·refine ⟨none, 0, by rw [h2], by rw [h2]; unfold maxLen; omega, fun j x hj => ?_⟩
  have : j < l.length := (List.getElem?_eq_some_iff.1 hj).1;omega
 ·refine ⟨_, cap, rfl, by omega, fun j x hj => ⟨g, rfl, hg, ?_⟩⟩
  have hj' : j < l.length := (List.getElem?_eq_some_iff.1 hj).1;have := h0.cellAt (j := j) (by omega);rw [this]; unfold yP; rw [List.getElem?_map, hj]; rfl
theorem Xs (l : List (List UInt8)) (w : List UInt8) : ∀ n, (YX l w n).length <= n * l.length
 | 0 => by simp [YX]
 | n + 1 => by
  rw [za2, List.length_append, List.length_map, Nat.add_mul];have := Xs l w n; have := zce l w n; omega
set_option maxHeartbeats 2000000 in
theorem znr (w : World) (base : Nat) (B : MB) (cs : List (Value × Value)) (L : List (List UInt8)) (s : ByteArray) (h : zX w base B cs (Ze L L.length) (Za L L.length)) (hs : s.size <= 400) (hL : L.length <= 410) :
  Calls Tryz.prog 170 #[.pointer (some ⟨B.b, 0, none⟩), .string s] w fun e w' => ∃ v, e = .returned v ∧ w'.ownsRow w.heap.size 248 2 v (zgc L s.data.toList).length (yt (zgc L s.data.toList)) ∧ Chg (fun _ => False) w w' := by
 have hsl := zv s;have LEN := zb (Zy w s (by unfold maxLen; omega));have hn2 : zt s.data.toList <= 200 := by unfold zt; omega
 have HERE := zb (fun w1 (h1 : zX w1 base B cs (Ze L L.length) (Za L L.length)) place hp => zlX w1 base B cs L s place h1 hs hp hL);have HS := zb (fun k => za2 L s.data.toList k);have HLN := zb (fun k => Xs L s.data.toList k);have HHL := zb (fun k => zce L s.data.toList k);have H := zb h;clear hs hsl h;unfold zgc;generalize zt s.data.toList = n at *;go_enter Tryz.func170, Tryz.ntmps170;go_wp2_with fail;refine (LEN.out).mono ?_;rintro e w' ⟨rfl, rfl⟩;go_wp2;go_loopw [5, 11] (fun lv iv wr => ∃ k : Nat, k <= n ∧ iv = .int .i64 k ∧ wr.ownsRow w.heap.size 248 2 lv (YX L s.data.toList k).length (yt (YX L s.data.toList k)) ∧ Chg (fun _ => False) w wr) (fun _ iv _ => n - (intOf iv).toNat)
 case atStart => exact ⟨0, by omega, rfl, World.ownsRow_nil _ _ _ _, Chg.refl _ _⟩
 case round =>
  obtain ⟨k, hk, rfl, ho, hc⟩ := hrel;have HO := zb ho;have HC := zb hc;clear ho hc;by_cases hlt : k < n
  ·have hS := HS.out k
   have hln := HLN.out k;have hhl := HHL.out k;have HE1 := zb (HERE.out wr (H.out.chg HC.out) k hlt);have HSK := zb hS;clear hS;generalize zbU L s.data.toList k = R at *;generalize YX L s.data.toList k = T at *;have hT : T.length <= 82000 := Nat.le_trans hln (Nat.le_trans (Nat.mul_le_mul (by omega : k <= 200) hL) (by omega));go_wp2_with fail;refine (HE1.out).mono ?_;rintro e w1 ⟨v1, rfl, o1, c1⟩;have O1 := zb o1;have C1 := zb (HC.out.trans c1);have OL := zb (zm HO.out c1 (fun _ _ e => e));have hap : zeT u5 v1 := fun x hx hu => by have := (HO.out.lt x hx).2; have := (o1.lt x hu).1; omega
   have HAP := zb hap;have hw1 : w.heap.size <= w1.heap.size := C1.out.size;obtain ⟨ra, rc, rfl, hrl, _⟩ := zew o1;clear o1 c1 hap HO HC HE1;unfold maxLen at hrl;go_wp2;go_loopw [5, 19] (fun lv iv wq => ∃ m : Nat, m <= R.length ∧ iv = .int .i64 m ∧ wq.ownsRow w.heap.size 248 2 lv (T ++ (R.take m).map fun i => (k, i)).length (yt (T ++ (R.take m).map fun i => (k, i))) ∧ wq.ownsRow wr.heap.size 3 1 (.slice ra R.length rc) R.length (yP R) ∧ zeT lv (.slice ra R.length rc) ∧ Chg (fun _ => False) w wq) (fun _ iv _ => R.length - (intOf iv).toNat)
   case atStart => exact ⟨0, by omega, rfl, by simpa using OL.out, O1.out, HAP.out, C1.out⟩
   case round =>
    obtain ⟨m, hm, rfl, ho, hr, ha, hc⟩ := hrel;have HO := zb ho;have HR := zb hr;have HA := zb ha;have HC := zb hc;clear O1 OL HAP C1;by_cases hlt2 : m < R.length
    ·obtain ⟨x, hx⟩ : ∃ x, R[m]? = some x := ⟨_, List.getElem?_eq_getElem hlt2⟩
     obtain ⟨ra', rc', he, _, hcl⟩ := zew hr;cases he;obtain ⟨g, rfl, hg, cx⟩ := hcl m x hx;have hlen : (T ++ (R.take m).map fun i => (k, i)).length <= 82410 := by rw [List.length_append, List.length_map, List.length_take]; omega
     have TS := zb (show yt (T ++ (R.take (m + 1)).map fun i => (k, i)) = yt (T ++ (R.take m).map fun i => (k, i)) ++ [.int .i64 (k : Int), .int .i64 (x : Int)] by
      have e : R.take (m + 1) = R.take m ++ [x] := by
       rw [List.take_succ_eq_append_getElem hlt2];rw [List.getElem?_eq_getElem hlt2] at hx;rw [Option.some.inj hx]
      rw [e, List.map_append, <- List.append_assoc, zbq]; rfl)
     have TL := zb (show (T ++ (R.take (m + 1)).map fun i => (k, i)).length = (T ++ (R.take m).map fun i => (k, i)).length + 1 by
      simp only [List.length_append, List.length_map, List.length_take]; omega)
     generalize (T ++ (R.take m).map fun i => (k, i)) = T1 at *;have hcs := hc.size;clear ho hr ha hc hcl hx;go_wp2_with (at_builtin; refine ZT rfl (.tmp 23) (.tmp 27) 245 rfl 248 2 16 Tryz.underlying245 Tryz.elemHit w.heap.size _ _ _ rfl (HO.out.alloc _) _ [.int .i64 (k : Int), .int .i64 (x : Int)] 248 (0, 0) rfl (zf _ _) rfl ?c1 ?c2 ?c3 ?c4 ?next)
     case c1 => intro u hu; simp at hu; rcases hu with rfl | rfl <;> rfl
     case c2 => omega
     case c3 => unfold maxLen; omega
     case c4 => simp; omega
     case next =>
      intro v' w5 o5 g5 s5;have C5 := zb ((HC.out.alloc (.cells #[.int .i64 (k : Int), .int .i64 (x : Int)] 248)).own (HO.out.alloc _) (Chg.of_grown g5));have R5 := zb (zev (HR.out.alloc (.cells #[.int .i64 (k : Int), .int .i64 (x : Int)] 248)) g5 HA.out);have A5 := zb (za6 HA.out s5 (HR.out.alloc _));rw [<- TS.out, <- TL.out] at o5;have O5 := zb o5;clear o5 g5 s5;go_wp2;go_roundw
      case rel => exact ⟨m + 1, by omega, by go_num, O5.out, R5.out, A5.out, C5.out⟩
      case measure => simp [intOf]; omega
    ·obtain rfl : m = R.length := by omega
     rw [List.take_length, <- HSK.out] at HO;have hdm : decide (R.length < R.length) = false := by simp
     clear ho hr ha hc hlt2;go_wp2;go_roundw
     case rel => exact ⟨k + 1, by omega, by go_num, HO.out, HC.out⟩
     case measure => simp [intOf]; omega
  ·obtain rfl : k = n := by omega
   go_wp2;go_ret;exact ⟨_, rfl, HO.out, HC.out⟩
end Go.Proofs.YthdfplafihmejaaGreat
