/-
  The reference's Atoms and May.
  The reference's May.
  Lists of hits, to be read.
  The reference's Of.
  What the arguments' readings say, in the words of the walks: words, and slices of words.
  Slices of words: append, and what is owned.
  Maps of plain elements, in any program: what a map's block says of each key; lookups, stores, deletions.
-/
import Derived.Test.YthdfplafihmejaaGreatMMach2
import Derived.Test.YthdfplafihmejaaGreatRPlain
import Derived.Laws.BytesString
import Derived.Laws.BytesArg
import Derived.Test.YthdfplafihmejaaGreatRows
import Derived.ProofKit
import Derived.OpenShut
import Derived.ShutString
import Derived.ChangeOld
import Derived.Deep.Slices
import Derived.Test.YthdfplafihmejaaGreatKit2
import Derived.Maps.Own
import Derived.Maps.OwnOps
import Derived.Maps.OwnSet
import Derived.Maps.Views
import Derived.Maps.RangeWalk
import Derived.WalkSpells
namespace Go.Proofs.YthdfplafihmejaaGreat
open Go.RowKit Go.Maps

def acells (l : List Nat) : List Value := l.map fun (a : Nat) => .int .u16 (a : Int)
theorem Tryz.elemAtom : ElemInfo Tryz.prog 62 1 2 := elemInfo_of (z := .int .u16 0) (by kernel_rfl) rfl (by decide)
end Go.Proofs.YthdfplafihmejaaGreat

namespace Go.Proofs.YthdfplafihmejaaGreat
open Go.RowKit Go.Maps

theorem own_get {w : World} {base : Nat} {e : TypeId} {v : Value} {n : Nat} {xs : List Value} (h : w.ownsRow base e 1 v n xs) : ∃ a cap, v = .slice a n cap ∧ n ≤ maxLen ∧ ∀ (j : Nat) x, xs[j]? = some x → ∃ g, a = some ⟨g, 0, none⟩ ∧ base ≤ g ∧ w.cell? ⟨g, j, none⟩ = some x := by
 have h0 := h
 obtain ⟨h1, ⟨rfl, h2⟩ | ⟨g, cap, cur, rfl, hg, hh, q1, q2, q3, q4⟩⟩ := h
 ·refine ⟨none, 0, by rw [h2], by rw [h2]; unfold maxLen; omega, fun j x hj => ?_⟩
  have : j < xs.length := (List.getElem?_eq_some_iff.1 hj).1
  omega
 ·refine ⟨_, cap, rfl, by omega, fun j x hj => ⟨g, rfl, hg, ?_⟩⟩
  have hj' : j < xs.length := (List.getElem?_eq_some_iff.1 hj).1
  have := h0.cellAt (j := j) (by omega)
  rw [this, hj]
end Go.Proofs.YthdfplafihmejaaGreat

namespace Go.Proofs.YthdfplafihmejaaGreat
open Go.RowKit Go.Maps

/-- A slice of hits, to be read. -/
def HitsAt (w : World) (v : Value) (G : Nat → Prop) (l : List (Nat × Nat)) : Prop :=
 ∃ la cap, v = .slice la l.length cap ∧ l.length ≤ maxLen ∧ ∀ (j : Nat) h, l[j]? = some h → ∃ g o, la = some ⟨g, o, none⟩ ∧ G g ∧ w.cell? ⟨g, o + j * 2, none⟩ = some (.int .i64 (h.1 : Int)) ∧ w.cell? ⟨g, o + j * 2 + 1, none⟩ = some (.int .i64 (h.2 : Int))
theorem hcells_length (l : List (Nat × Nat)) : (hcells l).length = 2 * l.length := by
 induction l with
 | nil => rfl
 | cons c r ih => simp [hcells] at ih ⊢; omega
theorem hcells_get (l : List (Nat × Nat)) : ∀ (k : Nat) c, l[k]? = some c → (hcells l)[2 * k]? = some (.int .i64 (c.1 : Int)) ∧ (hcells l)[2 * k + 1]? = some (.int .i64 (c.2 : Int)) := by
 induction l with
 | nil => intro k c h; simp at h
 | cons x r ih =>
  intro k c h
  rcases k with _ | k
  ·simp at h; subst h; exact ⟨rfl, rfl⟩
  ·have := ih k c (by simpa using h)
   show (Value.int .i64 (x.1 : Int) :: Value.int .i64 (x.2 : Int) :: hcells r)[2 * (k + 1)]? = _ ∧ (Value.int .i64 (x.1 : Int) :: Value.int .i64 (x.2 : Int) :: hcells r)[2 * (k + 1) + 1]? = _
   rw [show 2 * (k + 1) = 2 * k + 1 + 1 from by omega]
   simpa using this
end Go.Proofs.YthdfplafihmejaaGreat

namespace Go.Proofs.YthdfplafihmejaaGreat
open Go.RowKit Go.Maps

def ofAtoms (l : List Nat) : List UInt8 := l.flatMap fun a => [UInt8.ofNat (a / 256), UInt8.ofNat (a % 256)]
theorem ofAtoms_snoc (l : List Nat) (a : Nat) : ofAtoms (l ++ [a]) = ofAtoms l ++ [UInt8.ofNat (a / 256), UInt8.ofNat (a % 256)] := by unfold ofAtoms; rw [List.flatMap_append]; simp
theorem ofAtoms_length (l : List Nat) : (ofAtoms l).length = 2 * l.length := by
 induction l with
 | nil => rfl
 | cons c r ih => simp [ofAtoms] at ih ⊢; omega
theorem Tryz.elemByte : ElemInfo Tryz.prog 5 1 1 := elemInfo_of (z := .int .u8 0) (by kernel_rfl) rfl (by decide)
theorem byte_val (m : Nat) (z : Int) (hm : m < 256) (hz : z = m) : Value.int .u8 z = bcell (UInt8.ofNat m) := by
 subst hz; unfold bcell; rw [UInt8.toNat_ofNat']; congr 1; omega
set_option maxHeartbeats 1000000 in
set_option maxRecDepth 100000 in
theorem rof_any (w : World) (a : Option Addr) (cap : Nat) (l : List Nat) (hpos : 0 < l.length) (hl : l.length ≤ 100000) (hc : ∀ (j : Nat) x, l[j]? = some x → x < 65536 ∧ ∃ g o, a = some ⟨g, o, none⟩ ∧ w.cell? ⟨g, o + j, none⟩ = some (.int .u16 ((x : Nat) : Int))) :
  Calls Tryz.prog 30 #[.slice a l.length cap] w fun e w' => e = .returned (.string ⟨(ofAtoms l).toArray⟩) ∧ Chg (fun _ => False) w w' := by
 have HC0 := Lib.hid hc
 clear hc
 go_enter Tryz.func30, Tryz.ntmps30
 go_wp2
 go_loopw [3, 4] (fun lv iv wr => ∃ k : Nat, k ≤ l.length ∧ iv = .int .i64 k ∧ wr.ownsRow w.heap.size 5 1 lv (2 * k) (bcells (ofAtoms (l.take k))) ∧ Chg (fun _ => False) w wr) (fun _ iv _ => l.length - (intOf iv).toNat)
 case atStart => exact ⟨0, by omega, rfl, own_empty _ _ _ _ (Nat.le_refl _), chg_alloc _ _ _⟩
 case round =>
  obtain ⟨k, hk, rfl, ho, hc⟩ := hrel
  have HO := Lib.hid ho
  have HC := Lib.hid hc
  have hsz := hc.size
  clear ho hc
  by_cases hlt : k < l.length
  ·obtain ⟨x, hx⟩ : ∃ x, l[k]? = some x := ⟨_, List.getElem?_eq_getElem hlt⟩
   obtain ⟨hx16, g, o, rfl, c0⟩ := HC0.out k x hx
   have c1 := cell_chg HC.out (fun e => e) c0
   have hgl : g < w.heap.size := World.block_lt_of_cell? w _ c0
   have TK := Lib.hid (show l.take (k + 1) = l.take k ++ [x] by
    rw [List.take_succ_eq_append_getElem hlt]
    rw [List.getElem?_eq_getElem hlt] at hx
    rw [Option.some.inj hx])
   clear c0 hx
   go_wp2
   refine wp_region_plan (N := 29) [.rd [0, 1, 2, 3, 4, 5, 6, 7, 8, 9, 10, 11, 12], .ef 13, .ef 14, .rd [15]] (fun w' => w'.cell? ⟨g, o + k, none⟩ = some (.int .u16 (x : Int))) (by kernel_rfl) (by kernel_rfl) (by kernel_rfl) (by kernel_rfl) (Nat.le_of_ble_eq_true rfl) c1 ?_
   refine plan_rd (A := ?A1) ?h1 ?h2
   case h1 =>
    intro w' hS K hK
    simp only [opsAt, List.filterMap_cons, List.filterMap_nil, List.getElem?_toArray, List.getElem?_cons_succ, List.getElem?_cons_zero]
    repeat still_step
    refine wpStill_nil ?_
    exact hK
   refine plan_ef rfl ?_
   go_wp2_with fail
   have k2 : Chg (fun _ => False) wr ((wr.alloc (.cells #[.int .u8 ((x : Int) / 256), .int .u8 ((x : Int) % 256)] 5)).drew) := (chg_alloc _ _ _).drew
   have c2 := cell_chg k2 (fun e => e) c1
   have e2 : ((wr.alloc (.cells #[.int .u8 ((x : Int) / 256), .int .u8 ((x : Int) % 256)] 5)).drew).heap[wr.heap.size]? = some (.cells #[.int .u8 ((x : Int) / 256), .int .u8 ((x : Int) % 256)] 5 (0, 0)) := obj_alloc_new _ _
   have o2 : ((wr.alloc (.cells #[.int .u8 ((x : Int) / 256), .int .u8 ((x : Int) % 256)] 5)).drew).ownsRow 0 5 1 (.slice (some ⟨wr.heap.size, 0, none⟩) 2 2) 2 [.int .u8 ((x : Int) / 256), .int .u8 ((x : Int) % 256)] := ⟨rfl, .inr ⟨wr.heap.size, 2, _, rfl, Nat.zero_le _, e2, Nat.le_refl _, by unfold maxLen; omega, rfl, rfl⟩⟩
   refine ⟨c2, ?_⟩
   have C2 := Lib.hid (HC.out.trans k2)
   have O2 := Lib.hid (own_chg HO.out k2 (fun _ _ e => e))
   have S2 := Lib.hid o2
   have hsz2 : w.heap.size ≤ ((wr.alloc (.cells #[.int .u8 ((x : Int) / 256), .int .u8 ((x : Int) % 256)] 5)).drew).heap.size := C2.out.size
   clear o2 e2 k2 c1 HO HC
   have V1 := Lib.hid (show Value.int .u8 ((x : Int) / 256) = bcell (UInt8.ofNat (x / 256)) from byte_val (x / 256) _ (by omega) (by omega))
   have V2 := Lib.hid (show Value.int .u8 ((x : Int) % 256) = bcell (UInt8.ofNat (x % 256)) from byte_val (x % 256) _ (by omega) (by omega))
   refine plan_ef rfl ?_
   refine wpList_join rfl (.tmp 12) (.tmp 25) 112 rfl 5 1 1 Tryz.underlying112 Tryz.elemByte w.heap.size _ _ _ rfl O2.out 0 _ _ _ rfl S2.out (by intro z hz; simp at hz; rcases hz with rfl | rfl <;> rfl) (by omega) (by unfold maxLen; omega) hsz2 ?_
   intro v5 w5 o5 g5
   have C5 := Lib.hid (C2.out.own O2.out (Chg.of_grown g5))
   have c5 : w5.cell? ⟨g, o + k, none⟩ = some (.int .u16 (x : Int)) := by
    refine cell_chg (Chg.of_grown g5) (fun e => ?_) c2
    have h1 := (O2.out.lt g e).1
    omega
   rw [V1.out, V2.out] at o5
   have OS := Lib.hid (show bcells (ofAtoms (l.take (k + 1))) = bcells (ofAtoms (l.take k)) ++ [bcell (UInt8.ofNat (x / 256)), bcell (UInt8.ofNat (x % 256))] by rw [TK.out, ofAtoms_snoc]; unfold bcells; rw [List.map_append]; rfl)
   rw [← OS.out] at o5
   have O5 := Lib.hid o5
   clear o5 g5
   go_wp2_with fail
   refine ⟨c5, ?_⟩
   refine plan_rd (A := ?A2) ?h3 ?h4
   case h3 =>
    intro w' hS K hK
    clear hS
    simp only [opsAt, List.filterMap_cons, List.filterMap_nil, List.getElem?_toArray, List.getElem?_cons_succ, List.getElem?_cons_zero]
    repeat still_step
    refine wpStill_nil ?_
    exact hK
   refine plan_nil ?_
   go_wp2
   go_roundw
   case rel => exact ⟨k + 1, by omega, by go_num, by rw [show 2 * (k + 1) = 2 * k + 2 from by omega]; exact O5.out, C5.out⟩
   case measure => simp [intOf]; omega
  ·obtain rfl : k = l.length := by omega
   have hol := ofAtoms_length l
   have hkd : decide (l.length < l.length) = false := by simp
   rw [List.take_length] at HO
   obtain ⟨ra, rc, rfl, hrl, hcl⟩ := own_get HO.out
   unfold maxLen at hrl
   obtain ⟨g, rfl, _, _⟩ := hcl 0 _ (bcells_get (ofAtoms l) 0 (by omega))
   have hcv := run_convert_bytes_arg (P := Tryz.prog) wr 112 5 Tryz.underlying112 Tryz.underlying5 g 0 (2 * l.length) rc ((ofAtoms l).map fun c => (c.toNat : Int)) (by rw [List.length_map, hol])
    (fun i hi => by
     obtain ⟨g', e', _, cx⟩ := hcl i _ (bcells_get (ofAtoms l) i (by omega))
     cases e'
     rw [Nat.zero_add]; exact cx) 57 Tryz.underlying57
   rw [strOfNums_bytes] at hcv
   clear hcl
   go_wp2
   go_ret
   exact ⟨rfl, HC.out⟩
end Go.Proofs.YthdfplafihmejaaGreat

namespace Go.Proofs.YthdfplafihmejaaGreat
open Go.ChangeShapes Go.WideShapes Go.ChangeAt Go.RowKit

theorem Tryz.own : ownKnob Tryz.prog.godebug = none := by kernel_rfl
theorem Tryz.laidOut : laidOutB Tryz.prog = true := by kernel_rfl
/-- A slice of words that came in. -/
structure WordsArg (w : World) (v : Value) (l : List ByteArray) : Prop where
 at_ : WordsAt w v (· < w.heap.size) l
 nil : ∀ n c, v = .slice none n c → n = 0 ∧ c = 0

section
variable {P : Program} {W : World} {H : Type} {enc : TypeId × Value → H}
end
end Go.Proofs.YthdfplafihmejaaGreat

namespace Go.Proofs.YthdfplafihmejaaGreat
open Go.RowKit Go.Maps

def wcells (l : List ByteArray) : List Value := l.map Value.string
theorem wcells_one (l : List ByteArray) : ∀ v ∈ wcells l, v.oneCell' = true := by
 intro v hv; simp [wcells] at hv; obtain ⟨c, _, rfl⟩ := hv; rfl
theorem Tryz.elemWord : ElemInfo Tryz.prog 57 1 16 := elemInfo_of (z := .string ⟨#[]⟩) (by kernel_rfl) rfl (by decide)
theorem wordsAt_own {w : World} {base : Nat} {v : Value} {l : List ByteArray} (h : w.ownsRow base 57 1 v l.length (wcells l)) (hs : ∀ x ∈ l, x.size ≤ 400) : WordsAt w v (· < w.heap.size) l := by
 obtain ⟨a, cap, rfl, h1, h2⟩ := own_get h
 refine ⟨a, cap, rfl, h1, fun j x hj => ?_⟩
 obtain ⟨g, rfl, hg, c⟩ := h2 j (.string x) (by unfold wcells; rw [List.getElem?_map, hj]; rfl)
 exact ⟨g, 0, rfl, World.block_lt_of_cell? w _ c, by rw [Nat.zero_add]; exact c, by have := hs x (List.mem_of_getElem? hj); unfold maxLen; omega⟩
end Go.Proofs.YthdfplafihmejaaGreat

namespace Go.Proofs.YthdfplafihmejaaGreat
open Go.RowKit Go.Maps

/-- Block b is a map that says f (of at most n entries). -/
def MapAt (P : Program) (k e : TypeId) (w : World) (b n : Nat) (f : Lit → Option (DataW Unit)) : Prop :=
 ∃ D : DataW Unit, w.ownsMap P k (plainElem P e) b n D ∧ ∀ kl, Maps.has D kl = (f kl).isSome ∧ ∀ d, f kl = some d → ∀ z, D.atKey kl z = d
open Classical in
noncomputable def putF (f : Lit → Option (DataW Unit)) (kl : Lit) (d : Option (DataW Unit)) : Lit → Option (DataW Unit) := fun x => if x = kl then d else f x
theorem putF_same (f : Lit → Option (DataW Unit)) (kl : Lit) (d : Option (DataW Unit)) : putF f kl d kl = d := if_pos rfl
theorem putF_other (f : Lit → Option (DataW Unit)) {kl x : Lit} (h : x ≠ kl) (d : Option (DataW Unit)) : putF f kl d x = f x := if_neg h
section
variable {P : Program} {k e : TypeId} {w : World} {b n : Nat} {f : Lit → Option (DataW Unit)}
theorem MapAt.made (P : Program) (k e : TypeId) (w : World) : MapAt P k e (w.alloc (.map #[] 0)) w.heap.size 0 (fun _ => none) :=
 ⟨.map [], World.ownsMap_made w P k _, fun _ => ⟨rfl, fun d h => by cases h⟩⟩
theorem MapAt.chg {S : Nat → Prop} {w' : World} (h : MapAt P k e w b n f) (hc : Chg S w w') (hs : ¬ S b) : MapAt P k e w' b n f := by
 obtain ⟨D, ⟨es, clock, hh, r⟩, q⟩ := h
 exact ⟨D, ⟨es, clock, hc.obj hs hh, r⟩, q⟩
theorem MapAt.lt (h : MapAt P k e w b n f) : b < w.heap.size := by
 obtain ⟨D, h, q⟩ := h
 exact h.lt
theorem MapAt.at {D : DataW Unit} (q : ∀ kl, Maps.has D kl = (f kl).isSome ∧ ∀ d, f kl = some d → ∀ z, D.atKey kl z = d) (kl : Lit) (z : DataW Unit) : D.atKey kl z = (f kl).getD z := by
 obtain ⟨h1, h2⟩ := q kl
 cases hf : f kl with
 | none => rw [hf] at h1; exact atKey_of_not_has h1 z
 | some d => exact h2 d hf z
theorem MapAt.look_ok {t : TypeId} (h : MapAt P k e w b n f) (K : Keyed P k) (ht : P.underlying t = some (.map k e)) {z : Value} (hz : (zeroValue e).run P w = .ok z w) {zd : DataW Unit} {zp : List MemPlace} (hzd : plainElem P e z = some (zd, zp))
  {key : Value} {kl : Lit} (hkey : keyOf P k key = some kl) : ∃ v ps, (Instr.lookup t (.map (some b)) key true).run P w = .ok (.tuple #[v, .bool (f kl).isSome]) w ∧ plainElem P e v = some ((f kl).getD zd, ps) := by
 obtain ⟨D, h, q⟩ := h
 obtain ⟨v, ps, h1, h2⟩ := h.look_ok K ht hz hzd hkey
 exact ⟨v, ps, by rw [h1, (q kl).1], by rw [h2, MapAt.at q]⟩
theorem MapAt.put {t : TypeId} (h : MapAt P k e w b n f) (K : Keyed P k) (ht : P.underlying t = some (.map k e)) (hn : n < maxLen) {key val : Value} {kl : Lit} {d : DataW Unit} {ps : List MemPlace}
  (hkey : keyOf P k key = some kl) (hv : plainElem P e val = some (d, ps)) : ∃ w', (Instr.mapUpdate t (.map (some b)) key val).run P w = .ok () w' ∧ MapAt P k e w' b (n + 1) (putF f kl (some d)) ∧ Chg (· = b) w w' := by
 obtain ⟨D, h, q⟩ := h
 obtain ⟨w', hr, h1, h2⟩ := h.update K ht hn hkey hv
 refine ⟨w', hr, ⟨_, h1, fun x => ?_⟩, (Chg.of_grown h2).mono (fun x _ e => by cases e; rfl)⟩
 have hk := K.key hkey
 by_cases hx : x = kl
 ·subst hx
  rw [putF_same]
  exact ⟨has_put_same h.isMap hk d, fun d' e z => by cases e; exact atKey_put_same h.isMap hk d z⟩
 ·rw [putF_other f hx, has_put_other hx]
  exact ⟨(q x).1, fun d' e z => by rw [atKey_put_other hx]; exact (q x).2 d' e z⟩
end
section
variable {P : Program} {w : World} {ops : Array Oper} {rest : List Oper} {o : Oper} {a : Act} {Q : Exit → Act → World → Prop}
/-- 'v, ok := m[x]' of a map of ints. -/
theorem wpList_look_int (hg : o.guard = none) (m x : Operand) (t : TypeId) (hop : o.op = Op.lookup t m x true) (k e : TypeId) (q : IntKind) (K : Keyed P k) (ht : P.underlying t = some (.map k e)) (he : P.underlying e = some (.int q)) (hz : (zeroValue e).run P w = .ok (.int q 0) w)
  (b n : Nat) (f : Lit → Option (DataW Unit)) (hm : a.eval m = .map (some b)) (hown : MapAt P k e w b n f) (key : Value) (kl : Lit) (hx : a.eval x = key) (hkey : keyOf P k key = some kl) (c : Int) (hc : (f kl).getD (.lit (.int q 0)) = .lit (.int q c)) (bo : Bool) (hbo : (f kl).isSome = bo)
  (hK : wpList P ops Q rest (a.put o.dst (.tuple #[.int q c, .bool bo])) w) : wpList P ops Q (o :: rest) a w := by
 refine wpList_plain hg fun K' hK' => ?_
 obtain ⟨v, ps, hrun, hv⟩ := hown.look_ok K ht hz (plainElem_int he (by cases q <;> decide)) hkey
 obtain ⟨c', rfl, e2, _⟩ := plainElem_int_inv he hv
 rw [hc] at e2
 cases e2
 rw [hbo] at hrun
 unfold Oper.wp
 simp [execOp, hop, hm, hx, hrun, Result.andThen]
 exact hK' _ _ hK
theorem wpList_put (hg : o.guard = none) (m x v : Operand) (t : TypeId) (hop : o.op = Op.mapUpdate t m x v) (k e : TypeId) (K : Keyed P k) (ht : P.underlying t = some (.map k e)) (b n : Nat) (f : Lit → Option (DataW Unit))
  (hm : a.eval m = .map (some b)) (hown : MapAt P k e w b n f) (hn : n < maxLen) (key val : Value) (kl : Lit) (hx : a.eval x = key) (hv : a.eval v = val) (hkey : keyOf P k key = some kl) (d : DataW Unit) (ps : List MemPlace) (hval : plainElem P e val = some (d, ps))
  (hK : ∀ w', MapAt P k e w' b (n + 1) (putF f kl (some d)) → Chg (· = b) w w' → wpList P ops Q rest (a.put o.dst undef) w') : wpList P ops Q (o :: rest) a w := by
 refine wpList_plain hg fun K' hK' => ?_
 obtain ⟨w', hrun, r1, r2⟩ := hown.put K ht hn hkey hval
 unfold Oper.wp
 simp [execOp, hop, hm, hx, hv, hrun, Result.andThen]
 exact hK' _ _ (hK w' r1 r2)
end
end Go.Proofs.YthdfplafihmejaaGreat
