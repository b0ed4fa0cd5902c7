/-
  Plain facts on worlds: which blocks may have changed; cells of a block that is known whole; a few laws on operations (clear, bytes to a string).
-/
import Derived.Test.YtjifdfhibkipnaaGreatProg
import Derived.WalkKit
import Derived.Lib.Hide
import Derived.Lib.AppendStr
import Derived.StillTailTactics
import Derived.Handy
import Derived.Laws.CopyOwn
import Derived.Deep.QuietTactic
import Derived.BigQuiet
namespace Go.Proofs.YtjifdfhibkipnaaGreat
open Go.RowKit

/-- Only blocks in S, and new ones, may differ. -/
structure Chg (S : Nat → Prop) (w w' : World) : Prop where
  os : w'.os = w.os
  tape : w'.tape = w.tape
  output : w'.output = w.output
  size : w.heap.size ≤ w'.heap.size
  block : ∀ k, k < w.heap.size → ¬ S k → w'.heap[k]? = w.heap[k]?

theorem Chg.refl (S : Nat → Prop) (w : World) : Chg S w w := ⟨rfl, rfl, rfl, Nat.le_refl _, fun _ _ _ => rfl⟩
theorem Chg.trans {S : Nat → Prop} {a b c : World} (h : Chg S a b) (k : Chg S b c) : Chg S a c :=
  ⟨k.os.trans h.os, k.tape.trans h.tape, k.output.trans h.output, Nat.le_trans h.size k.size,
    fun i hi hs => (k.block i (Nat.lt_of_lt_of_le hi h.size) hs).trans (h.block i hi hs)⟩
theorem Chg.mono {S T : Nat → Prop} {a b : World} (h : Chg S a b) (hs : ∀ k, k < a.heap.size → S k → T k) : Chg T a b :=
  ⟨h.os, h.tape, h.output, h.size, fun i hi ht => h.block i hi (fun q => ht (hs i hi q))⟩
theorem Chg.drewN {S : Nat → Prop} {a b : World} (h : Chg S a b) (n : Nat) : Chg S a (b.drewN n) := ⟨h.os, h.tape, h.output, h.size, h.block⟩
theorem Chg.drew {S : Nat → Prop} {a b : World} (h : Chg S a b) : Chg S a b.drew := ⟨h.os, h.tape, h.output, h.size, h.block⟩
theorem Chg.alloc {S : Nat → Prop} {a b : World} (h : Chg S a b) (o : Obj) : Chg S a (b.alloc o) :=
  h.trans ⟨rfl, rfl, rfl, by simp, fun k hk _ => Below.heap_alloc _ _ _ (by omega)⟩
theorem Chg.setCell {S : Nat → Prop} {a b : World} (h : Chg S a b) {p : Addr} (hp : p.block < a.heap.size → S p.block) (u : Value) : Chg S a (b.setCell p u) :=
  ⟨h.os, h.tape, h.output, by simpa [World.setCell] using h.size, fun k hk hs => by
    rw [Below.heap_setCell _ _ _ _ (by rintro rfl; exact hs (hp hk))]; exact h.block k hk hs⟩
theorem Chg.setRow {S : Nat → Prop} {a b : World} (h : Chg S a b) {g : Nat} (hp : g < a.heap.size → S g) (cs : Array Value) : Chg S a (b.setRow g cs) :=
  ⟨h.os, h.tape, h.output, by simpa [World.setRow] using h.size, fun k hk hs => by
    rw [setRow_other _ _ _ _ (by rintro rfl; exact hs (hp hk))]; exact h.block k hk hs⟩
theorem lt_of_obj {w : World} {k : Nat} {o : Obj} (h : w.heap[k]? = some o) : k < w.heap.size := by
  rcases Nat.lt_or_ge k w.heap.size with g | g
  · exact g
  · rw [Array.getElem?_eq_none g] at h; cases h
theorem Chg.obj {S : Nat → Prop} {w w' : World} {k : Nat} {o : Obj} (h : Chg S w w') (hs : ¬ S k) (ho : w.heap[k]? = some o) : w'.heap[k]? = some o :=
  (h.block k (lt_of_obj ho) hs).trans ho
theorem Chg.below {S : Nat → Prop} {w w' : World} {B : Nat} (h : Chg S w w') (hs : ∀ k, k < B → ¬ S k) (hB : B ≤ w.heap.size) : Below B w w' :=
  ⟨h.os, h.tape, h.output, h.size, fun k hk => h.block k (by omega) (hs k hk)⟩
theorem Chg.of_below {S : Nat → Prop} {w w' : World} (h : Below w.heap.size w w') : Chg S w w' :=
  ⟨h.os, h.tape, h.output, h.size, fun k hk _ => h.block k hk⟩
theorem cell_of {w : World} {b o : Nat} {cs : Array Value} {t : TypeId} {fz : Nat × Nat} {v : Value} (h : w.heap[b]? = some (.cells cs t fz)) (hv : cs[o]? = some v) : w.cell? ⟨b, o, none⟩ = some v := by
  simp [World.cell?, h, hv]
theorem frozen_of {w : World} {b o : Nat} {cs : Array Value} {t : TypeId} (h : w.heap[b]? = some (.cells cs t (0, 0))) : w.frozen? ⟨b, o, none⟩ = false := by
  simp [World.frozen?, h]
theorem obj_setCell {w : World} {b o : Nat} {cs : Array Value} {t : TypeId} {fz : Nat × Nat} (h : w.heap[b]? = some (.cells cs t fz)) (v : Value) :
    (w.setCell ⟨b, o, none⟩ v).heap[b]? = some (.cells (cs.setIfInBounds o v) t fz) := by
  rw [setCell_eq_setRow w b o cs t fz v h]; exact setRow_heap w b cs _ t fz h
theorem obj_setCell_ne {w : World} {b k : Nat} (o : Nat) (v : Value) (hne : k ≠ b) : (w.setCell ⟨b, o, none⟩ v).heap[k]? = w.heap[k]? :=
  Below.heap_setCell _ _ _ _ hne
theorem obj_alloc_new (w : World) (o : Obj) : (w.alloc o).heap[w.heap.size]? = some o := heap_alloc_new w o
theorem obj_alloc {w : World} {k : Nat} {x : Obj} (o : Obj) (h : w.heap[k]? = some x) : (w.alloc o).heap[k]? = some x :=
  (Below.heap_alloc w o k (lt_of_obj h)).trans h
theorem obj_drewN {w : World} {k : Nat} {x : Obj} (n : Nat) (h : w.heap[k]? = some x) : (w.drewN n).heap[k]? = some x := h

theorem chg_cell (w : World) (b o : Nat) (v : Value) : Chg (fun k => k = b) w (w.setCell ⟨b, o, none⟩ v) :=
  Chg.setCell (S := fun k => k = b) (Chg.refl _ _) (fun _ => rfl) _
/-- The cells of bytes. -/
def bcell (c : UInt8) : Value := .int .u8 (c.toNat : Int)
def bcells (l : List UInt8) : List Value := l.map bcell
theorem bcells_one (l : List UInt8) : ∀ v ∈ bcells l, v.oneCell' = true := by
  intro v hv; simp [bcells] at hv; obtain ⟨c, _, rfl⟩ := hv; rfl
theorem bcells_length (l : List UInt8) : (bcells l).length = l.length := by simp [bcells]

/-- So many of one value (a name of its own, so that the walk does not write it out). -/
def reps (n : Nat) (z : Value) : List Value := List.replicate n z
theorem reps_length (n : Nat) (z : Value) : (reps n z).length = n := List.length_replicate

/-- 'clear(s)' of a slice of integers of one cell that lies in a row that is known whole. -/
theorem run_clear_row {P : Program} (w : World) (dT ty elem : TypeId) (g o n c : Nat) (cur : List Value) (t : TypeId) (z : Value)
    (hu : P.underlying dT = some (.slice elem)) (hz : (zeroValue elem).run P w = .ok z w) (hz1 : z.cells = #[z]) (hz2 : z.oneCell' = true)
    (hg : w.heap[g]? = some (.cells cur.toArray t (0, 0))) (hfit : o + n ≤ cur.length) (hn : 0 < n) :
    (Builtin.clear_ #[dT] ty #[.slice (some ⟨g, o, none⟩) n c]).run P w =
      .ok (.tuple #[]) (w.setRow g (splice cur o (reps n z)).toArray) := by
  have hzc : Builtin.zeroCells z.cells n = (List.replicate n z).toArray := by
    rw [hz1]; unfold Builtin.zeroCells
    apply Array.ext
    · simp
    · intro i h1 h2; simp at h1 h2 ⊢; simp [Nat.mod_one]
  have hst := run_storeCells_at P g o t (List.replicate n z) 0 cur.toArray w hg (by simpa using hfit) (by intro v hv; rw [List.eq_of_mem_replicate hv]; exact hz2)
  obtain ⟨m, rfl⟩ : ∃ m, n = m + 1 := ⟨n - 1, by omega⟩
  simp [Builtin.clear_, run_underlying hu, hz, hzc, hst, splice, reps]

/-- What a write into a row leaves: the row, and the rest as it was. -/
structure RowSet (g : Nat) (l : List Value) (t : TypeId) (w w' : World) : Prop where
  row : w'.heap[g]? = some (.cells l.toArray t (0, 0))
  chg : Chg (· = g) w w'
theorem rowSet_setRow {w : World} {g : Nat} {cur : Array Value} {t : TypeId} (hg : w.heap[g]? = some (.cells cur t (0, 0))) (l : List Value) : RowSet g l t w (w.setRow g l.toArray) :=
  ⟨setRow_heap w g cur _ t _ hg, Chg.setRow (S := fun x => x = g) (Chg.refl _ _) (fun _ => rfl) _⟩

theorem wpList_clear {P : Program} {w : World} {ops : Array Oper} {rest : List Oper} {o : Oper} {a : Act} {Q : Exit → Act → World → Prop} (hgd : o.guard = none) (d : Operand) (dT : TypeId)
    (ho : o.op = .call { callee := .builtin .clear, args := #[d], argTypes := #[dT] }) (elem : TypeId) (hu : P.underlying dT = some (.slice elem))
    (z : Value) (hz : ∀ w, (zeroValue elem).run P w = .ok z w) (hz1 : z.cells = #[z]) (hz2 : z.oneCell' = true)
    (g off n c : Nat) (hd : a.eval d = .slice (some ⟨g, off, none⟩) n c) (cur : List Value) (t : TypeId) (hg : w.heap[g]? = some (.cells cur.toArray t (0, 0))) (hfit : off + n ≤ cur.length) (hn : 0 < n)
    (h : ∀ w', RowSet g (splice cur off (reps n z)) t w w' → wpList P ops Q rest (a.put o.dst (.tuple #[])) w') : wpList P ops Q (o :: rest) a w := by
  refine wpList_plain hgd fun K hK => ?_
  have hrun := run_clear_row (P := P) w dT o.type elem g off n c cur t z hu (hz w) hz1 hz2 hg hfit hn
  unfold Oper.wp
  simp [execOp, ho, resolve, invoke, builtin, hd, hrun, Result.andThen]
  exact hK _ _ (h _ (rowSet_setRow hg _))

theorem firstCells_string {P : Program} (w : World) (s : ByteArray) (k : Nat) : (Builtin.firstCells k s.size (.string s)).run P w = .ok (bcells s.data.toList).toArray w := by
  have e : (s.extract 0 s.size) = s := by simp
  simp only [Builtin.firstCells, e]
  show Result.ok _ _ = _
  congr 1
  apply Array.ext'
  simp [bcells]; intro _ _; rfl

/-- 'copy(dst, s)' of a string into a slice of bytes that lies in a row that is known whole. -/
theorem run_copy_string {P : Program} (w : World) (dT sT ty elem : TypeId) (g o dLen dCap : Nat) (s : ByteArray) (cur : List Value) (t : TypeId)
    (hu : P.underlying dT = some (.slice elem)) (hs : (P.info? elem).map (·.size) = some 1)
    (hg : w.heap[g]? = some (.cells cur.toArray t (0, 0))) (hle : s.size ≤ dLen) (hfit : o + s.size ≤ cur.length) :
    (Builtin.copy_ #[dT, sT] ty #[.slice (some ⟨g, o, none⟩) dLen dCap, .string s]).run P w =
      .ok (goInt s.size) (w.setRow g (splice cur o (bcells s.data.toList)).toArray) := by
  have hmin : Nat.min s.size dLen = s.size := Nat.min_eq_left hle
  have hl : (bcells s.data.toList).length = s.size := by rw [bcells_length, Array.length_toList]; rfl
  have hst := run_storeCells_at P g o t (bcells s.data.toList) 0 cur.toArray w hg (by rw [hl]; simpa using hfit) (bcells_one _)
  have hfc := firstCells_string (P := P) w s 1
  cases hq : P.info? elem with
  | none => simp [hq] at hs
  | some i =>
    have hi : i.size = 1 := by simpa [hq] using hs
    simp [Builtin.copy_, run_underlying hu, Builtin.lenOf, sizeOf, typeInfo, hq, hi, hmin, hfc, hst, splice]

theorem wpList_copy_string {P : Program} {w : World} {ops : Array Oper} {rest : List Oper} {o : Oper} {a : Act} {Q : Exit → Act → World → Prop} (hgd : o.guard = none) (d sO : Operand) (dT sT : TypeId)
    (ho : o.op = .call { callee := .builtin .copy, args := #[d, sO], argTypes := #[dT, sT] }) (elem : TypeId) (hu : P.underlying dT = some (.slice elem)) (hsz : (P.info? elem).map (·.size) = some 1)
    (g off n c : Nat) (s : ByteArray) (hd : a.eval d = .slice (some ⟨g, off, none⟩) n c) (hs : a.eval sO = .string s) (cur : List Value) (t : TypeId) (hg : w.heap[g]? = some (.cells cur.toArray t (0, 0))) (hle : s.size ≤ n) (hfit : off + s.size ≤ cur.length)
    (h : ∀ w', RowSet g (splice cur off (bcells s.data.toList)) t w w' → wpList P ops Q rest (a.put o.dst (goInt s.size)) w') : wpList P ops Q (o :: rest) a w := by
  refine wpList_plain hgd fun K hK => ?_
  have hrun := run_copy_string (P := P) w dT sT o.type elem g off n c s cur t hu hsz hg hle hfit
  unfold Oper.wp
  simp [execOp, ho, resolve, invoke, builtin, hd, hs, hrun, Result.andThen]
  exact hK _ _ (h _ (rowSet_setRow hg _))

theorem addr_add (g o j : Nat) : (⟨g, o, none⟩ : Addr).add j = ⟨g, o + j, none⟩ := by unfold Addr.add; split <;> simp_all

/-- 'copy(dst, src)': both lie in rows that are known whole. -/
theorem run_copy_rows {P : Program} (w : World) (dT sT ty elem : TypeId) (sz g o dLen dCap g2 o2 sLen sCap : Nat) (cur src : List Value) (t t2 : TypeId) (fz : Nat × Nat)
    (hu : P.underlying dT = some (.slice elem)) (hs : (P.info? elem).map (·.size) = some sz)
    (hg : w.heap[g]? = some (.cells cur.toArray t (0, 0))) (hg2 : w.heap[g2]? = some (.cells src.toArray t2 fz)) (h1 : ∀ v ∈ src, v.oneCell' = true)
    (hfit : o + Nat.min sLen dLen * sz ≤ cur.length) (hfit2 : o2 + Nat.min sLen dLen * sz ≤ src.length) :
    (Builtin.copy_ #[dT, sT] ty #[.slice (some ⟨g, o, none⟩) dLen dCap, .slice (some ⟨g2, o2, none⟩) sLen sCap]).run P w =
      .ok (goInt (Nat.min sLen dLen)) (w.setRow g (splice cur o ((src.drop o2).take (Nat.min sLen dLen * sz))).toArray) := by
  have hcl : ((src.drop o2).take (Nat.min sLen dLen * sz)).length = Nat.min sLen dLen * sz := by simp; omega
  have hl := run_loadCells_list (P := P) w ⟨g2, o2, none⟩ ((src.drop o2).take (Nat.min sLen dLen * sz)) (fun j v hj => by
    rw [addr_add]
    refine cell_of hg2 ?_
    rw [List.getElem?_take] at hj
    split at hj
    · simpa using hj
    · cases hj)
  have hst := run_storeCells_at P g o t ((src.drop o2).take (Nat.min sLen dLen * sz)) 0 cur.toArray w hg (by rw [hcl]; simpa using hfit)
    (fun v hv => h1 v (List.mem_of_mem_drop (List.mem_of_mem_take hv)))
  rw [hcl] at hl
  cases hq : P.info? elem with
  | none => simp [hq] at hs
  | some i =>
    have hi : i.size = sz := by simpa [hq] using hs
    simp only [Builtin.copy_, Builtin.lenOf, Builtin.firstCells, sizeOf, typeInfo]
    simp [run_underlying hu, hq, hi, hl, hst, splice]

theorem wpList_copy_rows {P : Program} {w : World} {ops : Array Oper} {rest : List Oper} {o : Oper} {a : Act} {Q : Exit → Act → World → Prop} (hgd : o.guard = none) (d s : Operand) (dT sT : TypeId)
    (ho : o.op = .call { callee := .builtin .copy, args := #[d, s], argTypes := #[dT, sT] }) (elem : TypeId) (hu : P.underlying dT = some (.slice elem)) (sz : Nat) (hsz : (P.info? elem).map (·.size) = some sz)
    (g off dLen dCap g2 o2 sLen sCap : Nat) (hd : a.eval d = .slice (some ⟨g, off, none⟩) dLen dCap) (hs : a.eval s = .slice (some ⟨g2, o2, none⟩) sLen sCap)
    (cur src : List Value) (t t2 : TypeId) (fz : Nat × Nat) (hg : w.heap[g]? = some (.cells cur.toArray t (0, 0))) (hg2 : w.heap[g2]? = some (.cells src.toArray t2 fz)) (h1 : ∀ v ∈ src, v.oneCell' = true)
    (hfit : off + Nat.min sLen dLen * sz ≤ cur.length) (hfit2 : o2 + Nat.min sLen dLen * sz ≤ src.length)
    (h : ∀ w', RowSet g (splice cur off ((src.drop o2).take (Nat.min sLen dLen * sz))) t w w' → wpList P ops Q rest (a.put o.dst (goInt (Nat.min sLen dLen))) w') : wpList P ops Q (o :: rest) a w := by
  refine wpList_plain hgd fun K hK => ?_
  have hrun := run_copy_rows (P := P) w dT sT o.type elem sz g off dLen dCap g2 o2 sLen sCap cur src t t2 fz hu hsz hg hg2 h1 hfit hfit2
  unfold Oper.wp
  simp only [execOp, ho, resolve, invoke, builtin]
  simp [hd, hs, hrun, Result.andThen]
  exact hK _ _ (h _ (rowSet_setRow hg _))

/-- What the program's table says of an element's type. -/
def ElemInfo (P : Program) (e : TypeId) (size bytes : Nat) : Prop :=
  ∃ i z, P.info? e = some i ∧ i.zero = some z ∧ i.size = size ∧ i.bytes = bytes ∧ z.cells.size = size ∧ 0 < size
theorem elemInfo_of {P : Program} {e : TypeId} {z : Value} {size bytes : Nat} (h : (P.info? e).map (fun i => (i.zero, i.size, i.bytes)) = some (some z, size, bytes)) (hz : z.cells.size = size) (hs : 0 < size) : ElemInfo P e size bytes := by
  cases hq : P.info? e with
  | none => simp [hq] at h
  | some i => simp [hq] at h; exact ⟨i, z, hq, h.1, h.2.1, h.2.2, hz, hs⟩

theorem Chg.of_grown {w w' : World} {row : Option Nat} (h : w.grownBy w' row) : Chg (fun k => row = some k) w w' :=
  ⟨h.os, h.tape, h.output, h.size, fun k hk hs => h.block k hk (fun e => hs e.symm)⟩
theorem Chg.grown {S : Nat → Prop} {a w w' : World} {row : Option Nat} (h : Chg S a w) (hg : w.grownBy w' row) (hs : ∀ k, row = some k → k < a.heap.size → S k) : Chg S a w' :=
  ⟨hg.os.trans h.os, hg.tape.trans h.tape, hg.output.trans h.output, Nat.le_trans h.size hg.size, fun k hk hn => by
    rw [hg.block k (Nat.lt_of_lt_of_le hk h.size) (fun e => hn (hs k e.symm hk))]; exact h.block k hk hn⟩
theorem own_lt {w : World} {base : Nat} {e : TypeId} {size : Nat} {v : Value} {n : Nat} {xs : List Value} (h : w.ownsRow base e size v n xs) : ∀ k, v.ownBlock = some k → base ≤ k ∧ k < w.heap.size := h.lt
/-- What is owned stays owned while other blocks change. -/
theorem own_chg {S : Nat → Prop} {w w' : World} {base : Nat} {e : TypeId} {size : Nat} {v : Value} {n : Nat} {xs : List Value} (h : w.ownsRow base e size v n xs) (hc : Chg S w w') (hs : ∀ k, v.ownBlock = some k → ¬ S k) : w'.ownsRow base e size v n xs := by
  obtain ⟨h1, h2⟩ := h
  refine ⟨h1, ?_⟩
  rcases h2 with h2 | ⟨g, cap, cur, rfl, hg, hh, r⟩
  · exact Or.inl h2
  · exact Or.inr ⟨g, cap, cur, rfl, hg, hc.obj (hs g rfl) hh, r⟩
theorem own_base {w : World} {base base' : Nat} {e : TypeId} {size : Nat} {v : Value} {n : Nat} {xs : List Value} (h : w.ownsRow base e size v n xs) (hb : base' ≤ base) : w.ownsRow base' e size v n xs := by
  obtain ⟨h1, h2⟩ := h
  refine ⟨h1, ?_⟩
  rcases h2 with h2 | ⟨g, cap, cur, rfl, hg, hh, r⟩
  · exact Or.inl h2
  · exact Or.inr ⟨g, cap, cur, rfl, by omega, hh, r⟩

/-- 'append(s, x)' of one element that lies in a block of its own ('buildSlice' ahead of it). -/
theorem wpList_push {P : Program} {w : World} {ops : Array Oper} {rest : List Oper} {o : Oper} {a : Act} {Q : Exit → Act → World → Prop} (hgd : o.guard = none) (s x : Operand) (t : TypeId)
    (ho : o.op = .call { callee := .builtin .append, args := #[s, x], argTypes := #[t, t] }) (e : TypeId) (size bytes : Nat) (ht : P.underlying t = some (.slice e)) (hE : ElemInfo P e size bytes)
    (base : Nat) (v : Value) (n : Nat) (xs : List Value) (hs : a.eval s = v) (hown : w.ownsRow base e size v n xs)
    (g : Nat) (news : List Value) (tt : TypeId) (fz : Nat × Nat) (hx : a.eval x = .slice (some ⟨g, 0, none⟩) 1 1) (hg : w.heap[g]? = some (.cells news.toArray tt fz)) (hl : news.length = size) (h1 : ∀ u ∈ news, u.oneCell' = true)
    (hbytes : (n + 1) * bytes ≤ 140737488355328) (h63 : n + 1 ≤ maxLen) (hbase : base ≤ w.heap.size)
    (h : ∀ v' w', w'.ownsRow base e size v' (n + 1) (xs ++ news) → w.grownBy w' v.ownBlock → wpList P ops Q rest (a.put o.dst v') w') : wpList P ops Q (o :: rest) a w := by
  obtain ⟨i, z, hi, hz, q1, q2, q3, q4⟩ := hE
  refine wpList_append_own w hgd s x t ho base e i z size bytes ht hi hz q1 q2 q3 q4 v n xs hs hown ⟨g, 0, none⟩ 1 1 news hx (by simpa using hl) ?_ h1 h63 hbytes hbase (fun v' w' h2 h3 _ => h v' w' h2 h3)
  intro j u hj
  rw [addr_add]
  exact cell_of hg (by simpa using hj)

/-- A struct or an array that lies inside a row: loaded whole, stored whole. -/
theorem run_loadVar_seg {P : Program} (w : World) (g o n : Nat) (t ty : TypeId) (cur : List Value) (fz : Nat × Nat) (d : TypeDesc) (hg : w.heap[g]? = some (.cells cur.toArray t fz))
    (hu : P.underlying ty = some d) (hd : (match d with | .struct _ | .array _ _ => true | _ => false) = true) (hi : (P.info? ty).map (·.size) = some n) (hfit : o + n ≤ cur.length) :
    (loadVar ty ⟨g, o, none⟩).run P w = .ok (.agg ((cur.drop o).take n).toArray) w := by
  have hcl : ((cur.drop o).take n).length = n := by simp; omega
  have hl := run_loadCells_list (P := P) w ⟨g, o, none⟩ ((cur.drop o).take n) (fun j v hj => by
    rw [addr_add]
    refine cell_of hg ?_
    rw [List.getElem?_take] at hj
    split at hj
    · simpa using hj
    · cases hj)
  rw [hcl] at hl
  cases hq : P.info? ty with
  | none => simp [hq] at hi
  | some i =>
    have hin : i.size = n := by simpa [hq] using hi
    cases d <;> simp at hd <;> simp [loadVar, isAgg, run_underlying hu, sizeOf, typeInfo, hq, hin, hl]

theorem wpStill_load_seg {P : Program} {ops : Array Oper} {w : World} {Q : Act → Prop} {a : Act} {o : Oper} {rest : List Oper} (hgd : o.guard = none) (ty : TypeId) (x : Operand) (ho : o.op = .load ty x)
    (g off n : Nat) (hx : a.eval x = .pointer (some ⟨g, off, none⟩)) (t : TypeId) (cur : List Value) (fz : Nat × Nat) (d : TypeDesc) (hg : w.heap[g]? = some (.cells cur.toArray t fz))
    (hu : P.underlying ty = some d) (hd : (match d with | .struct _ | .array _ _ => true | _ => false) = true) (hi : (P.info? ty).map (·.size) = some n) (hfit : off + n ≤ cur.length)
    (h : wpStill P ops w Q rest (a.put o.dst (.agg ((cur.drop off).take n).toArray))) : wpStill P ops w Q (o :: rest) a := by
  have hw : Region.wanted o (yielded ops a.tmps) = true := by simp [Region.wanted, hgd]
  unfold wpStill
  rw [if_pos hw]
  unfold Oper.still execOp
  simp only [ho, hx, Instr.loadAt, Instr.sureAddr, Sem.run_bind, Sem.run_pure, Result.andThen_ok, run_loadVar_seg w g off n t ty cur fz d hg hu hd hi hfit]
  exact ⟨rfl, h⟩

theorem wpList_load_seg {P : Program} {ops : Array Oper} {w : World} {Q : Exit → Act → World → Prop} {a : Act} {o : Oper} {rest : List Oper} (hgd : o.guard = none) (ty : TypeId) (x : Operand) (ho : o.op = .load ty x)
    (g off n : Nat) (hx : a.eval x = .pointer (some ⟨g, off, none⟩)) (t : TypeId) (cur : List Value) (fz : Nat × Nat) (d : TypeDesc) (hg : w.heap[g]? = some (.cells cur.toArray t fz))
    (hu : P.underlying ty = some d) (hd : (match d with | .struct _ | .array _ _ => true | _ => false) = true) (hi : (P.info? ty).map (·.size) = some n) (hfit : off + n ≤ cur.length)
    (h : wpList P ops Q rest (a.put o.dst (.agg ((cur.drop off).take n).toArray)) w) : wpList P ops Q (o :: rest) a w := by
  refine wpList_plain hgd fun K hK => ?_
  unfold Oper.wp execOp
  simp only [ho, hx, Instr.loadAt, Instr.sureAddr, Sem.run_bind, Sem.run_pure, Result.andThen_ok, run_loadVar_seg w g off n t ty cur fz d hg hu hd hi hfit]
  exact hK _ _ h

theorem wpList_store_seg {P : Program} {ops : Array Oper} {w : World} {Q : Exit → Act → World → Prop} {a : Act} {o : Oper} {rest : List Oper} (hgd : o.guard = none) (ty : TypeId) (x y : Operand) (ho : o.op = .store ty x y)
    (g off n : Nat) (hx : a.eval x = .pointer (some ⟨g, off, none⟩)) (new : List Value) (hy : a.eval y = .agg new.toArray) (t : TypeId) (cur : List Value) (hg : w.heap[g]? = some (.cells cur.toArray t (0, 0)))
    (hi : (P.info? ty).map (·.size) = some n) (hn : new.length = n) (hfit : off + n ≤ cur.length) (h1 : ∀ v ∈ new, v.oneCell' = true)
    (h : ∀ w', RowSet g (splice cur off new) t w w' → wpList P ops Q rest (a.put o.dst undef) w') : wpList P ops Q (o :: rest) a w := by
  refine wpList_plain hgd fun K hK => ?_
  have hst := run_storeCells_at P g off t new 0 cur.toArray w hg (by simpa [hn] using hfit) h1
  have e : (w.setRow g ((cur.toArray.toList.take (off + 0) ++ new ++ cur.toArray.toList.drop (off + 0 + new.length)).toArray)) = w.setRow g (splice cur off new).toArray := by simp [splice]
  rw [e] at hst
  cases hq : P.info? ty with
  | none => simp [hq] at hi
  | some i =>
    have hin : i.size = n := by simpa [hq] using hi
    unfold Oper.wp execOp
    simp [ho, hx, hy, Instr.storeAt, Instr.sureAddr, storeVar, Value.cells, sizeOf, typeInfo, hq, hin, hn, hst]
    exact hK _ _ (h _ (rowSet_setRow hg _))

/-- 'append(b, s...)', s a string. -/
theorem wpList_push_string {P : Program} {w : World} {ops : Array Oper} {rest : List Oper} {o : Oper} {a : Act} {Q : Exit → Act → World → Prop} (hgd : o.guard = none) (sl x : Operand) (t u : TypeId)
    (ho : o.op = .call { callee := .builtin .append, args := #[sl, x], argTypes := #[t, u] }) (e : TypeId) (ht : P.underlying t = some (.slice e)) (hu : P.underlying u = some .string)
    (hE : (P.info? e).map (fun i => (i.zero, i.size, i.bytes)) = some (some (.int .u8 0), 1, 1))
    (base : Nat) (v : Value) (n : Nat) (xs : List Value) (hs : a.eval sl = v) (hown : w.ownsRow base e 1 v n xs) (s : ByteArray) (hx : a.eval x = .string s)
    (h63 : n + s.size ≤ 140737488355328) (hbase : base ≤ w.heap.size)
    (h : ∀ v' w', w'.ownsRow base e 1 v' (n + s.size) (xs ++ bcells s.data.toList) → w.grownBy w' v.ownBlock → wpList P ops Q rest (a.put o.dst v') w') : wpList P ops Q (o :: rest) a w := by
  obtain ⟨i, hi, q1, q2, q3⟩ := info_parts hE
  exact Lib.wpList_append_own_string w hgd sl x t u ho base e i ht hu hi q1 q2 q3 v n xs hs hown s hx (by unfold maxLen; omega) h63 hbase (fun v' w' h2 h3 _ => h v' w' h2 h3)

/-- What is owned, and is not nil. -/
theorem own_slice {w : World} {base : Nat} {e : TypeId} {size : Nat} {v : Value} {n : Nat} {xs : List Value} (h : w.ownsRow base e size v n xs) (hn : 0 < n) :
    ∃ g cap, v = .slice (some ⟨g, 0, none⟩) n cap ∧ base ≤ g ∧ n ≤ cap ∧ cap ≤ maxLen ∧ ∀ j u, xs[j]? = some u → w.cell? ⟨g, j, none⟩ = some u := by
  obtain ⟨h1, h2 | ⟨g, cap, cur, rfl, hg, hh, q1, q2, q3, q4⟩⟩ := h
  · omega
  · refine ⟨g, cap, rfl, hg, q1, q2, fun j u hj => cell_of hh ?_⟩
    rw [← q4, List.getElem?_take] at hj
    split at hj
    · simpa using hj
    · cases hj
theorem bcells_get (l : List UInt8) (j : Nat) (h : j < l.length) : (bcells l)[j]? = some (.int .u8 ((l.map fun c => (c.toNat : Int)).getD j 0)) := by
  unfold bcells bcell
  rw [List.getElem?_map, List.getD_eq_getElem?_getD, List.getElem?_map, List.getElem?_eq_getElem h]; rfl
theorem strOfNums_bytes (l : List UInt8) : strOfNums (l.map fun c => (c.toNat : Int)) = ⟨l.toArray⟩ := by
  unfold strOfNums
  congr 1
  simp [Function.comp_def]

/-- A region that draws its order and only reads: one walk, in the text's order, in the world behind the draw. -/
theorem wp_still_drew {P : Program} {id : Nat} {Q : Exit → Act → World → Prop} {a : Act} {w : World} {l : List Oper} (hm : P.follows .mixedOrders = true) (hB : Region.lexB .any l.toArray = true)
    (h : wpStill P l.toArray w.drew (fun a' => Q .normal a' w.drew) l a) : (Code.region id l.toArray true).wp P Q a w := wp_region_still_lit hm hB h
theorem wp_still_tail_drew {P : Program} {id : Nat} {Q : Exit → Act → World → Prop} {a : Act} {w : World} {l : List Oper} (n : Nat) (hm : P.follows .mixedOrders = true) (hB : Region.lexTailB .any l.toArray n = true)
    (h : wpStill P l.toArray w.drew (fun a' => wpList P l.toArray Q (l.drop n) a' w.drew) (l.take n) a) : (Code.region id l.toArray true).wp P Q a w := wp_region_still_tail n hm hB h
theorem chg_drew (S : Nat → Prop) (w : World) : Chg S w w.drew := (Chg.refl S w).drew
theorem chg_alloc (S : Nat → Prop) (w : World) (o : Obj) : Chg S w (w.alloc o) := (Chg.refl S w).alloc o

end Go.Proofs.YtjifdfhibkipnaaGreat
