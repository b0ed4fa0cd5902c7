/-
  The reference's Atoms and May.
  The reference's May.
  Lists of hits, to be read.
  The reference's Of.
  What the arguments' readings say, in the words of the walks: words, and slices of words.
  Slices of words: append, and what is owned.
  Maps of plain elements, in any program: what a map's block says of each key; lookups, stores, deletions.
-/
import Derived.Test.YtjifdfhibkipnaaGreatMMach2
import Derived.Test.YtjifdfhibkipnaaGreatRPlain
import Derived.Laws.BytesString
import Derived.Laws.BytesArg
import Derived.Test.YtjifdfhibkipnaaGreatRows
import Derived.ProofKit
import Derived.OpenShut
import Derived.ShutString
import Derived.ChangeOld
import Derived.Deep.Slices
import Derived.Test.YtjifdfhibkipnaaGreatKit2
import Derived.Maps.Own
import Derived.Maps.OwnOps
import Derived.Maps.OwnSet
import Derived.Maps.Views
import Derived.Maps.RangeWalk
import Derived.WalkSpells
namespace Go.Proofs.YtjifdfhibkipnaaGreat
open Go.RowKit Go.Maps

def acells (l : List Nat) : List Value := l.map fun (a : Nat) => .int .u16 (a : Int)
theorem Tryz.elemAtom : ElemInfo Tryz.prog 56 1 2 := elemInfo_of (z := .int .u16 0) (by kernel_rfl) rfl (by decide)
theorem acells_snoc (l : List Nat) (a : Nat) : acells (l ++ [a]) = acells l ++ [.int .u16 (a : Int)] := by unfold acells; rw [List.map_append]; rfl
theorem u16_sum (x y : Nat) (hx : x < 256) (hy : y < 256) : IntKind.u16.wrap (IntKind.u16.wrap (IntKind.u16.wrap (x : Int) * 256) + IntKind.u16.wrap (y : Int)) = ((x * 256 + y : Nat) : Int) := by
  have e1 : IntKind.u16.wrap (x : Int) = (x : Int) := by show (x : Int) % 65536 = _; omega
  have e2 : IntKind.u16.wrap (y : Int) = (y : Int) := by show (y : Int) % 65536 = _; omega
  have e3 : IntKind.u16.wrap ((x : Int) * 256) = (x : Int) * 256 := by show ((x : Int) * 256) % 65536 = _; omega
  rw [e1, e2, e3]
  show ((x : Int) * 256 + (y : Int)) % 65536 = _
  omega
theorem atomAt_bytes (s : ByteArray) (k : Nat) (hk : 2 * k + 1 < s.size) (h0 : 2 * k < s.size) : atomAt s.data.toList k = (s[2 * k]'h0).toNat * 256 + (s[2 * k + 1]'hk).toNat := by
  have hsl := size_list s
  unfold atomAt
  rw [List.getD_eq_getElem?_getD, List.getElem?_eq_getElem (by omega), List.getD_eq_getElem?_getD, List.getElem?_eq_getElem (by omega)]; rfl
set_option maxHeartbeats 1000000 in
set_option maxRecDepth 100000 in
theorem ratoms_any (w : World) (s : ByteArray) (hs : s.size ≤ 140737488355328) :
    Calls Tryz.prog 53 #[.string s] w fun e w' => ∃ v, e = .returned v ∧ w'.ownsRow w.heap.size 56 1 v (atoms s.data.toList).length (acells (atoms s.data.toList)) ∧ Chg (fun _ => False) w w' := by
  have hsl := size_list s
  have HN := Lib.hid (show alen s.data.toList = s.size / 2 by unfold alen; rw [hsl])
  have TK := Lib.hid (fun k hk => atoms_take_succ s.data.toList (i := k) hk)
  have AL := Lib.hid (atoms_length s.data.toList)
  have AV := Lib.hid (fun k hk h0 => atomAt_bytes s k hk h0)
  clear hsl
  go_enter Tryz.func53, Tryz.ntmps53
  go_wp2
  go_loopw [3, 4] (fun lv iv wr => ∃ k : Nat, 2 * k ≤ s.size ∧ iv = .int .i64 ((2 * k : Nat) : Int) ∧ wr.ownsRow w.heap.size 56 1 lv k (acells ((atoms s.data.toList).take k)) ∧ Chg (fun _ => False) w wr) (fun _ iv _ => s.size - (intOf iv).toNat)
  case atStart => exact ⟨0, by omega, rfl, own_empty _ _ _ _ (Nat.le_refl _), chg_alloc _ _ _⟩
  case round =>
    obtain ⟨k, hk, rfl, ho, hc⟩ := hrel
    have HO := Lib.hid ho
    have HC := Lib.hid hc
    have hsz := hc.size
    clear ho hc
    obtain ⟨i0, hi0⟩ : ∃ i0 : Nat, 2 * k = i0 := ⟨_, rfl⟩
    by_cases hlt : i0 + 1 < s.size
    · have TK1 := Lib.hid (TK.out k (by rw [HN.out]; omega))
      have hav := AV.out k (by omega) (by omega)
      obtain ⟨x, hx, qx⟩ : ∃ x, x < 256 ∧ (s[i0]'(Nat.lt_of_succ_lt hlt)).toNat = x := ⟨_, UInt8.toNat_lt _, rfl⟩
      obtain ⟨y, hy, qy⟩ : ∃ y, y < 256 ∧ (s[i0 + 1]'hlt).toNat = y := ⟨_, UInt8.toNat_lt _, rfl⟩
      have HAV := Lib.hid (show atomAt s.data.toList k = x * 256 + y by rw [hav, ← qx, ← qy]; simp only [hi0])
      have HI0 := Lib.hid hi0
      rw [hi0]
      clear hav hi0
      have SUM := Lib.hid (u16_sum x y hx hy)
      have a2 : IntKind.i64.wrap ((i0 : Int) + 1) = (i0 : Int) + 1 := by rw [IntKind.wrap_i64]; omega
      have b1 : 0 ≤ (i0 : Int) := by omega
      have b2 : (i0 : Int) < (s.size : Int) := by omega
      have b3 : 0 ≤ (i0 : Int) + 1 := by omega
      have b4 : (i0 : Int) + 1 < (s.size : Int) := by omega
      have t2 : ((i0 : Int) + 1).toNat = i0 + 1 := by omega
      go_wp2
      refine wp_region_plan (N := 28) [.rd [0, 1, 2, 3, 4, 5, 6, 7, 8, 9, 10, 11], .ef 12, .ef 13, .rd [14]] (fun _ => True) (by kernel_rfl) (by kernel_rfl) (by kernel_rfl) (by kernel_rfl) (Nat.le_of_ble_eq_true rfl) trivial ?_
      refine plan_rd (A := ?A1) ?h1 ?h2
      case h1 =>
        intro w' hS K hK
        clear hS
        simp only [opsAt, List.filterMap_cons, List.filterMap_nil, List.getElem?_toArray, List.getElem?_cons_succ, List.getElem?_cons_zero]
        repeat still_step
        refine wpStill_nil ?_
        exact hK
      rw [SUM.out, ← HAV.out]
      clear a2 b1 b2 b3 b4 t2
      have hk2 : (k + 1) * 2 ≤ 140737488355328 := by have := HI0.out; omega
      generalize atomAt s.data.toList k = ak at *
      refine plan_ef rfl ?_
      go_wp2_with fail
      refine ⟨trivial, ?_⟩
      refine plan_ef rfl ?_
      refine wpList_push rfl (.tmp 13) (.tmp 25) 101 rfl 56 1 2 Tryz.underlying101 Tryz.elemAtom w.heap.size _ _ _ rfl ((own_chg HO.out (chg_drew (fun _ => False) wr) (fun _ _ e => e)).alloc _) _ [.int .u16 (ak : Int)] 56 (0, 0) rfl (obj_alloc_new _ _) rfl (by intro u hu; simp at hu; subst hu; rfl) (by omega) (by unfold maxLen; omega) (by simp; omega) ?_
      intro v5 w5 o5 g5
      have C5 := Lib.hid (((HC.out.drew).alloc (.cells #[.int .u16 (ak : Int)] 56)).own ((own_chg HO.out (chg_drew (fun _ => False) wr) (fun _ _ e => e)).alloc _) (Chg.of_grown g5))
      rw [← acells_snoc, ← TK1.out] at o5
      have O5 := Lib.hid o5
      clear o5 g5
      go_wp2_with fail
      refine ⟨trivial, ?_⟩
      refine plan_rd (A := ?A2) ?h3 ?h4
      case h3 =>
        intro w' hS K hK
        clear hS
        simp only [opsAt, List.filterMap_cons, List.filterMap_nil, List.getElem?_toArray, List.getElem?_cons_succ, List.getElem?_cons_zero]
        repeat still_step
        refine wpStill_nil ?_
        exact hK
      refine plan_nil ?_
      go_wp2
      go_roundw
      case rel => exact ⟨k + 1, by have := HI0.out; omega, by rw [show 2 * (k + 1) = i0 + 2 from by have := HI0.out; omega]; go_num, O5.out, C5.out⟩
      case measure => simp [intOf]; omega
    · have HT := Lib.hid (show (atoms s.data.toList).take k = atoms s.data.toList from List.take_of_length_le (by rw [AL.out, HN.out]; omega))
      have HKL := Lib.hid (show k = (atoms s.data.toList).length by rw [AL.out, HN.out]; omega)
      rw [hi0]
      have hge : (s.size : Int) ≤ (i0 : Int) + 1 := by omega
      have hd1 : decide ((i0 : Int) + 1 < (s.size : Int)) = false := by rw [decide_eq_false_iff_not]; omega
      have hd2 : decide (i0 + 1 < s.size) = false := by rw [decide_eq_false_iff_not]; omega
      have hi1 : i0 ≤ 140737488355328 := by omega
      clear hi0
      go_wp2
      go_ret
      refine ⟨_, rfl, ?_, HC.out⟩
      have := HO.out
      rw [HT.out, HKL.out] at this
      exact this
end Go.Proofs.YtjifdfhibkipnaaGreat

namespace Go.Proofs.YtjifdfhibkipnaaGreat
open Go.RowKit Go.Maps

theorem own_get {w : World} {base : Nat} {e : TypeId} {v : Value} {n : Nat} {xs : List Value} (h : w.ownsRow base e 1 v n xs) : ∃ a cap, v = .slice a n cap ∧ n ≤ maxLen ∧ ∀ (j : Nat) x, xs[j]? = some x → ∃ g, a = some ⟨g, 0, none⟩ ∧ base ≤ g ∧ w.cell? ⟨g, j, none⟩ = some x := by
  have h0 := h
  obtain ⟨h1, ⟨rfl, h2⟩ | ⟨g, cap, cur, rfl, hg, hh, q1, q2, q3, q4⟩⟩ := h
  · refine ⟨none, 0, by rw [h2], by rw [h2]; unfold maxLen; omega, fun j x hj => ?_⟩
    have : j < xs.length := (List.getElem?_eq_some_iff.1 hj).1
    omega
  · refine ⟨_, cap, rfl, by omega, fun j x hj => ⟨g, rfl, hg, ?_⟩⟩
    have hj' : j < xs.length := (List.getElem?_eq_some_iff.1 hj).1
    have := h0.cellAt (j := j) (by omega)
    rw [this, hj]
set_option maxRecDepth 100000 in
theorem rmay_any (w : World) (s : ByteArray) (hs : s.size ≤ 140737488355328) :
    Calls Tryz.prog 26 #[.string s] w fun e w' => e = .returned (.bool (mayB s.data.toList)) ∧ Chg (fun _ => False) w w' := by
  have hsl := size_list s
  have ATO := Lib.hid (ratoms_any w s hs)
  have AL := Lib.hid (atoms_length s.data.toList)
  have AG := Lib.hid (show ∀ i, i < alen s.data.toList → (acells (atoms s.data.toList))[i]? = some (.int .u16 (atomAt s.data.toList i : Nat)) from fun i hi => by unfold acells; rw [List.getElem?_map, atoms_get _ hi]; rfl)
  have MI := Lib.hid (mayB_iff s.data.toList)
  rw [hsl] at MI
  have hn2 : alen s.data.toList ≤ 140737488355328 := by unfold alen; omega
  have MN := Lib.hid (show ∀ i, i < alen s.data.toList → atomAt s.data.toList i = 0 → mayB s.data.toList = false from fun i hi h => mayB_no3 hi h)
  have ALT := Lib.hid (fun k => atomAt_lt s.data.toList k)
  rw [AL.out] at ATO
  clear hsl
  generalize alen s.data.toList = n at *
  go_enter Tryz.func26, Tryz.ntmps26
  go_wp2_with fail
  refine (ATO.out).mono ?_
  rintro e w1 ⟨v1, rfl, o1, c1⟩
  obtain ⟨ra, rc, rfl, hrl, hcl⟩ := own_get o1
  have HCL := Lib.hid hcl
  have C1 := Lib.hid c1
  unfold maxLen at hrl
  clear o1 c1 hcl
  go_wp2
  go_loop [4] (fun iv => ∃ k : Nat, k ≤ n ∧ iv = .int .i64 k ∧ Hid (∀ i, i < k → atomAt s.data.toList i ≠ 0)) (fun iv => n - (intOf iv).toNat)
  case atStart => exact ⟨0, by omega, rfl, Lib.hid (fun i hi => by omega)⟩
  case round =>
    obtain ⟨k, hk, rfl, HZ⟩ := hrel
    by_cases hlt : k < n
    · obtain ⟨g, rfl, _, cx⟩ := HCL.out k _ (AG.out k hlt)
      have hal := ALT.out k
      by_cases hz : atomAt s.data.toList k = 0
      · have HF := Lib.hid (MN.out k hlt hz)
        rw [hz] at cx
        clear hz
        go_wp2
        go_ret
        exact ⟨by rw [HF.out]; rfl, C1.out⟩
      · have hz1 : (((atomAt s.data.toList k : Nat) : Int) == 0) = false := by rw [beq_eq_false_iff_ne]; omega
        have HZ2 := Lib.hid (show ∀ i, i < k + 1 → atomAt s.data.toList i ≠ 0 from fun i hi => by
          rcases Nat.lt_or_ge i k with q | q
          · exact HZ.out i q
          · obtain rfl : i = k := by omega
            exact hz)
        clear hz
        generalize atomAt s.data.toList k = ak at *
        go_wp2
        go_round
        case rel => exact ⟨k + 1, by omega, by go_num, HZ2⟩
        case measure => simp [intOf]; omega
    · obtain rfl : k = n := by omega
      have MB := Lib.hid (show mayB s.data.toList = (decide (s.size % 2 = 0) && decide (1 ≤ k) && decide (k ≤ 8)) by
        rw [Bool.eq_iff_iff, MI.out]
        simp only [Bool.and_eq_true, decide_eq_true_eq]
        constructor
        · rintro ⟨h1, h2, h3, _⟩; exact ⟨⟨h1, h2⟩, h3⟩
        · rintro ⟨⟨h1, h2⟩, h3⟩; exact ⟨h1, h2, h3, HZ.out⟩)
      have hkd : decide (k < k) = false := by simp
      clear HCL AG MN MI HZ hlt
      by_cases h1 : s.size % 2 = 0
      · have g1 : ((s.size : Int) % 2 == 0) = true := by rw [beq_iff_eq]; omega
        by_cases h2 : 1 ≤ k
        · have g2 : decide (1 ≤ (k : Int)) = true := by rw [decide_eq_true_eq]; omega
          by_cases h3 : k ≤ 8
          · have g3 : decide ((k : Int) ≤ 8) = true := by rw [decide_eq_true_eq]; omega
            have R := Lib.hid (show mayB s.data.toList = true by rw [MB.out]; simp [h1, h2, h3])
            clear h1 MB
            go_wp2
            go_ret
            exact ⟨by rw [R.out]; rfl, C1.out⟩
          · have g3 : decide ((k : Int) ≤ 8) = false := by rw [decide_eq_false_iff_not]; omega
            have R := Lib.hid (show mayB s.data.toList = false by rw [MB.out]; simp [h3])
            clear h1 MB
            go_wp2
            go_ret
            exact ⟨by rw [R.out]; rfl, C1.out⟩
        · have g2 : decide (1 ≤ (k : Int)) = false := by rw [decide_eq_false_iff_not]; omega
          have R := Lib.hid (show mayB s.data.toList = false by rw [MB.out]; simp [h2])
          clear h1 MB
          go_wp2
          go_ret
          exact ⟨by rw [R.out]; rfl, C1.out⟩
      · have g1 : ((s.size : Int) % 2 == 0) = false := by rw [beq_eq_false_iff_ne]; omega
        have R := Lib.hid (show mayB s.data.toList = false by rw [MB.out]; simp [h1])
        clear h1 MB
        go_wp2
        go_ret
        exact ⟨by rw [R.out]; rfl, C1.out⟩
end Go.Proofs.YtjifdfhibkipnaaGreat

namespace Go.Proofs.YtjifdfhibkipnaaGreat
open Go.RowKit Go.Maps

/-- A slice of hits, to be read. -/
def HitsAt (w : World) (v : Value) (G : Nat → Prop) (l : List (Nat × Nat)) : Prop :=
  ∃ la cap, v = .slice la l.length cap ∧ l.length ≤ maxLen ∧ ∀ (j : Nat) h, l[j]? = some h → ∃ g o, la = some ⟨g, o, none⟩ ∧ G g ∧ w.cell? ⟨g, o + j * 2, none⟩ = some (.int .i64 (h.1 : Int)) ∧ w.cell? ⟨g, o + j * 2 + 1, none⟩ = some (.int .i64 (h.2 : Int))
theorem HitsAt.chg {S : Nat → Prop} {w w' : World} {v : Value} {G : Nat → Prop} {l : List (Nat × Nat)} (h : HitsAt w v G l) (hc : Chg S w w') (hs : ∀ k, G k → ¬ S k) : HitsAt w' v G l := by
  obtain ⟨la, cap, h1, h2, h3⟩ := h
  exact ⟨la, cap, h1, h2, fun j x hj => by obtain ⟨g, o, q1, q2, q3, q4⟩ := h3 j x hj; exact ⟨g, o, q1, q2, cell_chg hc (hs g q2) q3, cell_chg hc (hs g q2) q4⟩⟩
theorem hcells_length (l : List (Nat × Nat)) : (hcells l).length = 2 * l.length := by
  induction l with
  | nil => rfl
  | cons c r ih => simp [hcells] at ih ⊢; omega
theorem hcells_get (l : List (Nat × Nat)) : ∀ (k : Nat) c, l[k]? = some c → (hcells l)[2 * k]? = some (.int .i64 (c.1 : Int)) ∧ (hcells l)[2 * k + 1]? = some (.int .i64 (c.2 : Int)) := by
  induction l with
  | nil => intro k c h; simp at h
  | cons x r ih =>
    intro k c h
    rcases k with _ | k
    · simp at h; subst h; exact ⟨rfl, rfl⟩
    · have := ih k c (by simpa using h)
      show (Value.int .i64 (x.1 : Int) :: Value.int .i64 (x.2 : Int) :: hcells r)[2 * (k + 1)]? = _ ∧ (Value.int .i64 (x.1 : Int) :: Value.int .i64 (x.2 : Int) :: hcells r)[2 * (k + 1) + 1]? = _
      rw [show 2 * (k + 1) = 2 * k + 1 + 1 from by omega]
      simpa using this
theorem hitsAt_own {w : World} {base : Nat} {v : Value} {l : List (Nat × Nat)} (h : w.ownsRow base 162 2 v l.length (hcells l)) : HitsAt w v (fun k => v.ownBlock = some k) l := by
  have h0 := h
  obtain ⟨h1, ⟨rfl, h2⟩ | ⟨g, cap, cur, rfl, hg, hh, q1, q2, q3, q4⟩⟩ := h
  · refine ⟨none, 0, by rw [h2], by rw [h2]; unfold maxLen; omega, fun j x hj => ?_⟩
    have : j < l.length := (List.getElem?_eq_some_iff.1 hj).1
    omega
  · refine ⟨_, cap, rfl, by omega, fun j x hj => ⟨g, 0, rfl, rfl, ?_, ?_⟩⟩
    · have hj' : j < l.length := (List.getElem?_eq_some_iff.1 hj).1
      have := h0.cellAt (j := j * 2) (by omega)
      rw [Nat.zero_add, this, show j * 2 = 2 * j from by omega]
      exact (hcells_get l j x hj).1
    · have hj' : j < l.length := (List.getElem?_eq_some_iff.1 hj).1
      have := h0.cellAt (j := j * 2 + 1) (by omega)
      rw [Nat.zero_add, this, show j * 2 + 1 = 2 * j + 1 from by omega]
      exact (hcells_get l j x hj).2
end Go.Proofs.YtjifdfhibkipnaaGreat

namespace Go.Proofs.YtjifdfhibkipnaaGreat
open Go.RowKit Go.Maps

def ofAtoms (l : List Nat) : List UInt8 := l.flatMap fun a => [UInt8.ofNat (a / 256), UInt8.ofNat (a % 256)]
theorem ofAtoms_snoc (l : List Nat) (a : Nat) : ofAtoms (l ++ [a]) = ofAtoms l ++ [UInt8.ofNat (a / 256), UInt8.ofNat (a % 256)] := by unfold ofAtoms; rw [List.flatMap_append]; simp
theorem ofAtoms_length (l : List Nat) : (ofAtoms l).length = 2 * l.length := by
  induction l with
  | nil => rfl
  | cons c r ih => simp [ofAtoms] at ih ⊢; omega
theorem Tryz.elemByte : ElemInfo Tryz.prog 5 1 1 := elemInfo_of (z := .int .u8 0) (by kernel_rfl) rfl (by decide)
theorem byte_val (m : Nat) (z : Int) (hm : m < 256) (hz : z = m) : Value.int .u8 z = bcell (UInt8.ofNat m) := by
  subst hz; unfold bcell; rw [UInt8.toNat_ofNat']; congr 1; omega
set_option maxHeartbeats 1000000 in
set_option maxRecDepth 100000 in
theorem rof_any (w : World) (a : Option Addr) (cap : Nat) (l : List Nat) (hpos : 0 < l.length) (hl : l.length ≤ 100000) (hc : ∀ (j : Nat) x, l[j]? = some x → x < 65536 ∧ ∃ g o, a = some ⟨g, o, none⟩ ∧ w.cell? ⟨g, o + j, none⟩ = some (.int .u16 ((x : Nat) : Int))) :
    Calls Tryz.prog 28 #[.slice a l.length cap] w fun e w' => e = .returned (.string ⟨(ofAtoms l).toArray⟩) ∧ Chg (fun _ => False) w w' := by
  have HC0 := Lib.hid hc
  clear hc
  go_enter Tryz.func28, Tryz.ntmps28
  go_wp2
  go_loopw [3, 4] (fun lv iv wr => ∃ k : Nat, k ≤ l.length ∧ iv = .int .i64 k ∧ wr.ownsRow w.heap.size 5 1 lv (2 * k) (bcells (ofAtoms (l.take k))) ∧ Chg (fun _ => False) w wr) (fun _ iv _ => l.length - (intOf iv).toNat)
  case atStart => exact ⟨0, by omega, rfl, own_empty _ _ _ _ (Nat.le_refl _), chg_alloc _ _ _⟩
  case round =>
    obtain ⟨k, hk, rfl, ho, hc⟩ := hrel
    have HO := Lib.hid ho
    have HC := Lib.hid hc
    have hsz := hc.size
    clear ho hc
    by_cases hlt : k < l.length
    · obtain ⟨x, hx⟩ : ∃ x, l[k]? = some x := ⟨_, List.getElem?_eq_getElem hlt⟩
      obtain ⟨hx16, g, o, rfl, c0⟩ := HC0.out k x hx
      have c1 := cell_chg HC.out (fun e => e) c0
      have hgl : g < w.heap.size := World.block_lt_of_cell? w _ c0
      have TK := Lib.hid (show l.take (k + 1) = l.take k ++ [x] by
        rw [List.take_succ_eq_append_getElem hlt]
        rw [List.getElem?_eq_getElem hlt] at hx
        rw [Option.some.inj hx])
      clear c0 hx
      go_wp2
      refine wp_region_plan (N := 29) [.rd [0, 1, 2, 3, 4, 5, 6, 7, 8, 9, 10, 11, 12], .ef 13, .ef 14, .rd [15]] (fun w' => w'.cell? ⟨g, o + k, none⟩ = some (.int .u16 (x : Int))) (by kernel_rfl) (by kernel_rfl) (by kernel_rfl) (by kernel_rfl) (Nat.le_of_ble_eq_true rfl) c1 ?_
      refine plan_rd (A := ?A1) ?h1 ?h2
      case h1 =>
        intro w' hS K hK
        simp only [opsAt, List.filterMap_cons, List.filterMap_nil, List.getElem?_toArray, List.getElem?_cons_succ, List.getElem?_cons_zero]
        repeat still_step
        refine wpStill_nil ?_
        exact hK
      refine plan_ef rfl ?_
      go_wp2_with fail
      have k2 : Chg (fun _ => False) wr ((wr.alloc (.cells #[.int .u8 ((x : Int) / 256), .int .u8 ((x : Int) % 256)] 5)).drew) := (chg_alloc _ _ _).drew
      have c2 := cell_chg k2 (fun e => e) c1
      have e2 : ((wr.alloc (.cells #[.int .u8 ((x : Int) / 256), .int .u8 ((x : Int) % 256)] 5)).drew).heap[wr.heap.size]? = some (.cells #[.int .u8 ((x : Int) / 256), .int .u8 ((x : Int) % 256)] 5 (0, 0)) := obj_alloc_new _ _
      have o2 : ((wr.alloc (.cells #[.int .u8 ((x : Int) / 256), .int .u8 ((x : Int) % 256)] 5)).drew).ownsRow 0 5 1 (.slice (some ⟨wr.heap.size, 0, none⟩) 2 2) 2 [.int .u8 ((x : Int) / 256), .int .u8 ((x : Int) % 256)] := ⟨rfl, .inr ⟨wr.heap.size, 2, _, rfl, Nat.zero_le _, e2, Nat.le_refl _, by unfold maxLen; omega, rfl, rfl⟩⟩
      refine ⟨c2, ?_⟩
      have C2 := Lib.hid (HC.out.trans k2)
      have O2 := Lib.hid (own_chg HO.out k2 (fun _ _ e => e))
      have S2 := Lib.hid o2
      have hsz2 : w.heap.size ≤ ((wr.alloc (.cells #[.int .u8 ((x : Int) / 256), .int .u8 ((x : Int) % 256)] 5)).drew).heap.size := C2.out.size
      clear o2 e2 k2 c1 HO HC
      have V1 := Lib.hid (show Value.int .u8 ((x : Int) / 256) = bcell (UInt8.ofNat (x / 256)) from byte_val (x / 256) _ (by omega) (by omega))
      have V2 := Lib.hid (show Value.int .u8 ((x : Int) % 256) = bcell (UInt8.ofNat (x % 256)) from byte_val (x % 256) _ (by omega) (by omega))
      refine plan_ef rfl ?_
      refine wpList_join rfl (.tmp 12) (.tmp 25) 103 rfl 5 1 1 Tryz.underlying103 Tryz.elemByte w.heap.size _ _ _ rfl O2.out 0 _ _ _ rfl S2.out (by intro z hz; simp at hz; rcases hz with rfl | rfl <;> rfl) (by omega) (by unfold maxLen; omega) hsz2 ?_
      intro v5 w5 o5 g5
      have C5 := Lib.hid (C2.out.own O2.out (Chg.of_grown g5))
      have c5 : w5.cell? ⟨g, o + k, none⟩ = some (.int .u16 (x : Int)) := by
        refine cell_chg (Chg.of_grown g5) (fun e => ?_) c2
        have h1 := (O2.out.lt g e).1
        omega
      rw [V1.out, V2.out] at o5
      have OS := Lib.hid (show bcells (ofAtoms (l.take (k + 1))) = bcells (ofAtoms (l.take k)) ++ [bcell (UInt8.ofNat (x / 256)), bcell (UInt8.ofNat (x % 256))] by rw [TK.out, ofAtoms_snoc]; unfold bcells; rw [List.map_append]; rfl)
      rw [← OS.out] at o5
      have O5 := Lib.hid o5
      clear o5 g5
      go_wp2_with fail
      refine ⟨c5, ?_⟩
      refine plan_rd (A := ?A2) ?h3 ?h4
      case h3 =>
        intro w' hS K hK
        clear hS
        simp only [opsAt, List.filterMap_cons, List.filterMap_nil, List.getElem?_toArray, List.getElem?_cons_succ, List.getElem?_cons_zero]
        repeat still_step
        refine wpStill_nil ?_
        exact hK
      refine plan_nil ?_
      go_wp2
      go_roundw
      case rel => exact ⟨k + 1, by omega, by go_num, by rw [show 2 * (k + 1) = 2 * k + 2 from by omega]; exact O5.out, C5.out⟩
      case measure => simp [intOf]; omega
    · obtain rfl : k = l.length := by omega
      have hol := ofAtoms_length l
      have hkd : decide (l.length < l.length) = false := by simp
      rw [List.take_length] at HO
      obtain ⟨ra, rc, rfl, hrl, hcl⟩ := own_get HO.out
      unfold maxLen at hrl
      obtain ⟨g, rfl, _, _⟩ := hcl 0 _ (bcells_get (ofAtoms l) 0 (by omega))
      have hcv := run_convert_bytes_arg (P := Tryz.prog) wr 103 5 Tryz.underlying103 Tryz.underlying5 g 0 (2 * l.length) rc ((ofAtoms l).map fun c => (c.toNat : Int)) (by rw [List.length_map, hol])
        (fun i hi => by
          obtain ⟨g', e', _, cx⟩ := hcl i _ (bcells_get (ofAtoms l) i (by omega))
          cases e'
          rw [Nat.zero_add]; exact cx) 24 Tryz.underlying24
      rw [strOfNums_bytes] at hcv
      clear hcl
      go_wp2
      go_ret
      exact ⟨rfl, HC.out⟩
end Go.Proofs.YtjifdfhibkipnaaGreat

namespace Go.Proofs.YtjifdfhibkipnaaGreat
open Go.ChangeShapes Go.WideShapes Go.ChangeAt Go.RowKit

theorem Tryz.own : ownKnob Tryz.prog.godebug = none := by kernel_rfl
theorem Tryz.laidOut : laidOutB Tryz.prog = true := by kernel_rfl
/-- A slice of words that came in. -/
structure WordsArg (w : World) (v : Value) (l : List ByteArray) : Prop where
  at_ : WordsAt w v (· < w.heap.size) l
  nil : ∀ n c, v = .slice none n c → n = 0 ∧ c = 0

section
variable {P : Program} {W : World} {H : Type} {enc : TypeId × Value → H}
theorem wordsArg_of {t e : TypeId} (ht : P.underlying t = some (.slice e)) (he : P.underlying e = some .string) (hc : P.cellsOf e = 1) {a : Option Addr} {n c : Nat} {d : DataW H} {ps : List MemPlace}
    (h : DataW.Trod enc P W 0 (fun _ => true) true t (.slice a n c) d ps) : ∃ l, WordsArg W (.slice a n c) l := by
  obtain ⟨fuel, hf⟩ := h
  rcases open_strings ht he hc hf with ⟨hcs, _⟩ | ⟨x, len, cap, ss, hcs, _, hl, hm, hz, _, hcell, hws⟩
  · simp [Value.cells] at hcs
    obtain ⟨rfl, rfl, rfl⟩ := hcs
    exact ⟨[], ⟨none, 0, rfl, by simp, fun j x hj => by simp at hj⟩, fun n c e => by cases e; exact ⟨rfl, rfl⟩⟩
  · simp [Value.cells] at hcs
    obtain ⟨rfl, rfl, rfl⟩ := hcs
    simp at hz
    refine ⟨ss.take n, ⟨some x, c, by simp; omega, by simp; omega, fun j s hj => ?_⟩, fun n c e => by cases e⟩
    have hjn : j < n := by
      have := (List.getElem?_eq_some_iff.1 hj).1
      simp at this; omega
    have h1 := hcell j (by omega)
    have h10 := hcell 0 (by omega)
    obtain ⟨b, off, spot⟩ := x
    have hs : spot = none := by simpa [Addr.add] using World.cell?_spot h10
    subst hs
    rw [addr_add] at h1
    refine ⟨b, off, rfl, World.block_lt_of_cell? W _ h1, ?_, hws s (List.mem_of_mem_take (List.mem_of_getElem? hj))⟩
    rw [h1]
    rw [List.getElem?_take, if_pos hjn] at hj
    rw [List.getD_eq_getElem?_getD, hj]; rfl
end
end Go.Proofs.YtjifdfhibkipnaaGreat

namespace Go.Proofs.YtjifdfhibkipnaaGreat
open Go.RowKit Go.Maps

def wcells (l : List ByteArray) : List Value := l.map Value.string
theorem wcells_one (l : List ByteArray) : ∀ v ∈ wcells l, v.oneCell' = true := by
  intro v hv; simp [wcells] at hv; obtain ⟨c, _, rfl⟩ := hv; rfl
theorem Tryz.elemWord : ElemInfo Tryz.prog 24 1 16 := elemInfo_of (z := .string ⟨#[]⟩) (by kernel_rfl) rfl (by decide)
/-- 'append(s, l...)': s owned, l a slice of words that came in. -/
theorem wpList_words {w0 w : World} {ops : Array Oper} {rest : List Oper} {o : Oper} {a : Act} {Q : Exit → Act → World → Prop} (hgd : o.guard = none) (s x : Operand)
    (ho : o.op = .call { callee := .builtin .append, args := #[s, x], argTypes := #[57, 57] })
    (base : Nat) (v : Value) (n : Nat) (xs : List Value) (hs : a.eval s = v) (hown : w.ownsRow base 24 1 v n xs)
    (u : Value) (l : List ByteArray) (hx : a.eval x = u) (hu : WordsArg w0 u l) (hc : Chg (fun _ => False) w0 w) (hl : n + l.length ≤ 1000000) (hbase : base ≤ w.heap.size)
    (h : ∀ v' w', w'.ownsRow base 24 1 v' (n + l.length) (xs ++ wcells l) → w.grownBy w' v.ownBlock → wpList Tryz.prog ops Q rest (a.put o.dst v') w') : wpList Tryz.prog ops Q (o :: rest) a w := by
  obtain ⟨i, z, hi, hz, q1, q2, q3, q4⟩ := Tryz.elemWord
  obtain ⟨⟨la, cap, rfl, h1, h2⟩, h3⟩ := hu
  cases la with
  | none =>
    obtain ⟨e1, rfl⟩ := h3 _ _ rfl
    have : l = [] := List.eq_nil_of_length_eq_zero e1
    subst this
    refine wpList_append_own_none hgd s x _ ho base _ i 1 Tryz.underlying57 hi v n xs hs hown hx ?_
    exact h v w (by simpa [wcells] using hown) ⟨rfl, rfl, rfl, Nat.le_refl _, fun _ _ _ => rfl⟩
  | some ad =>
    refine wpList_append_own w hgd s x _ ho base _ i z 1 16 Tryz.underlying57 hi hz q1 q2 q3 q4 v n xs hs hown ad l.length cap (wcells l) hx (by simp [wcells]) ?_ (wcells_one l) (by unfold maxLen; omega) (by omega) hbase (fun v' w' g1 g2 _ => h v' w' g1 g2)
    intro j y hj
    unfold wcells at hj
    rw [List.getElem?_map] at hj
    cases hq : l[j]? with
    | none => rw [hq] at hj; cases hj
    | some b =>
      rw [hq] at hj
      cases hj
      obtain ⟨lb, lo, e, _, c, _⟩ := h2 j b hq
      cases e
      rw [addr_add]; exact cell_chg hc (fun e => e) c
theorem wordsAt_own {w : World} {base : Nat} {v : Value} {l : List ByteArray} (h : w.ownsRow base 24 1 v l.length (wcells l)) (hs : ∀ x ∈ l, x.size ≤ 400) : WordsAt w v (· < w.heap.size) l := by
  obtain ⟨a, cap, rfl, h1, h2⟩ := own_get h
  refine ⟨a, cap, rfl, h1, fun j x hj => ?_⟩
  obtain ⟨g, rfl, hg, c⟩ := h2 j (.string x) (by unfold wcells; rw [List.getElem?_map, hj]; rfl)
  exact ⟨g, 0, rfl, World.block_lt_of_cell? w _ c, by rw [Nat.zero_add]; exact c, by have := hs x (List.mem_of_getElem? hj); unfold maxLen; omega⟩
end Go.Proofs.YtjifdfhibkipnaaGreat

namespace Go.Proofs.YtjifdfhibkipnaaGreat
open Go.RowKit Go.Maps

/-- Block b is a map that says f (of at most n entries). -/
def MapAt (P : Program) (k e : TypeId) (w : World) (b n : Nat) (f : Lit → Option (DataW Unit)) : Prop :=
  ∃ D : DataW Unit, w.ownsMap P k (plainElem P e) b n D ∧ ∀ kl, Maps.has D kl = (f kl).isSome ∧ ∀ d, f kl = some d → ∀ z, D.atKey kl z = d
open Classical in
noncomputable def putF (f : Lit → Option (DataW Unit)) (kl : Lit) (d : Option (DataW Unit)) : Lit → Option (DataW Unit) := fun x => if x = kl then d else f x
theorem putF_same (f : Lit → Option (DataW Unit)) (kl : Lit) (d : Option (DataW Unit)) : putF f kl d kl = d := if_pos rfl
theorem putF_other (f : Lit → Option (DataW Unit)) {kl x : Lit} (h : x ≠ kl) (d : Option (DataW Unit)) : putF f kl d x = f x := if_neg h
section
variable {P : Program} {k e : TypeId} {w : World} {b n : Nat} {f : Lit → Option (DataW Unit)}
theorem MapAt.made (P : Program) (k e : TypeId) (w : World) : MapAt P k e (w.alloc (.map #[] 0)) w.heap.size 0 (fun _ => none) :=
  ⟨.map [], World.ownsMap_made w P k _, fun _ => ⟨rfl, fun d h => by cases h⟩⟩
theorem MapAt.chg {S : Nat → Prop} {w' : World} (h : MapAt P k e w b n f) (hc : Chg S w w') (hs : ¬ S b) : MapAt P k e w' b n f := by
  obtain ⟨D, ⟨es, clock, hh, r⟩, q⟩ := h
  exact ⟨D, ⟨es, clock, hc.obj hs hh, r⟩, q⟩
theorem MapAt.mono {n' : Nat} (h : MapAt P k e w b n f) (hn : n ≤ n') : MapAt P k e w b n' f := by
  obtain ⟨D, h, q⟩ := h
  exact ⟨D, h.mono hn, q⟩
theorem MapAt.lt (h : MapAt P k e w b n f) : b < w.heap.size := by
  obtain ⟨D, h, q⟩ := h
  exact h.lt
theorem MapAt.at {D : DataW Unit} (q : ∀ kl, Maps.has D kl = (f kl).isSome ∧ ∀ d, f kl = some d → ∀ z, D.atKey kl z = d) (kl : Lit) (z : DataW Unit) : D.atKey kl z = (f kl).getD z := by
  obtain ⟨h1, h2⟩ := q kl
  cases hf : f kl with
  | none => rw [hf] at h1; exact atKey_of_not_has h1 z
  | some d => exact h2 d hf z
theorem MapAt.look {t : TypeId} (h : MapAt P k e w b n f) (K : Keyed P k) (ht : P.underlying t = some (.map k e)) {z : Value} (hz : (zeroValue e).run P w = .ok z w) {zd : DataW Unit} {zp : List MemPlace} (hzd : plainElem P e z = some (zd, zp))
    {key : Value} {kl : Lit} (hkey : keyOf P k key = some kl) : ∃ v ps, (Instr.lookup t (.map (some b)) key false).run P w = .ok v w ∧ plainElem P e v = some ((f kl).getD zd, ps) := by
  obtain ⟨D, h, q⟩ := h
  obtain ⟨v, ps, h1, h2⟩ := h.lookup K ht hz hzd hkey
  exact ⟨v, ps, h1, by rw [h2, MapAt.at q]⟩
theorem MapAt.look_ok {t : TypeId} (h : MapAt P k e w b n f) (K : Keyed P k) (ht : P.underlying t = some (.map k e)) {z : Value} (hz : (zeroValue e).run P w = .ok z w) {zd : DataW Unit} {zp : List MemPlace} (hzd : plainElem P e z = some (zd, zp))
    {key : Value} {kl : Lit} (hkey : keyOf P k key = some kl) : ∃ v ps, (Instr.lookup t (.map (some b)) key true).run P w = .ok (.tuple #[v, .bool (f kl).isSome]) w ∧ plainElem P e v = some ((f kl).getD zd, ps) := by
  obtain ⟨D, h, q⟩ := h
  obtain ⟨v, ps, h1, h2⟩ := h.look_ok K ht hz hzd hkey
  exact ⟨v, ps, by rw [h1, (q kl).1], by rw [h2, MapAt.at q]⟩
theorem MapAt.put {t : TypeId} (h : MapAt P k e w b n f) (K : Keyed P k) (ht : P.underlying t = some (.map k e)) (hn : n < maxLen) {key val : Value} {kl : Lit} {d : DataW Unit} {ps : List MemPlace}
    (hkey : keyOf P k key = some kl) (hv : plainElem P e val = some (d, ps)) : ∃ w', (Instr.mapUpdate t (.map (some b)) key val).run P w = .ok () w' ∧ MapAt P k e w' b (n + 1) (putF f kl (some d)) ∧ Chg (· = b) w w' := by
  obtain ⟨D, h, q⟩ := h
  obtain ⟨w', hr, h1, h2⟩ := h.update K ht hn hkey hv
  refine ⟨w', hr, ⟨_, h1, fun x => ?_⟩, (Chg.of_grown h2).mono (fun x _ e => by cases e; rfl)⟩
  have hk := K.key hkey
  by_cases hx : x = kl
  · subst hx
    rw [putF_same]
    exact ⟨has_put_same h.isMap hk d, fun d' e z => by cases e; exact atKey_put_same h.isMap hk d z⟩
  · rw [putF_other f hx, has_put_other hx]
    exact ⟨(q x).1, fun d' e z => by rw [atKey_put_other hx]; exact (q x).2 d' e z⟩
theorem MapAt.del {t : TypeId} (h : MapAt P k e w b n f) (K : Keyed P k) (ht : P.underlying t = some (.map k e)) {key : Value} {kl : Lit} (hkey : keyOf P k key = some kl) (ty : TypeId) :
    ∃ w', (Builtin.delete_ #[t, k] ty #[.map (some b), key]).run P w = .ok (.tuple #[]) w' ∧ MapAt P k e w' b n (putF f kl none) ∧ Chg (· = b) w w' := by
  obtain ⟨D, h, q⟩ := h
  obtain ⟨w', hr, h1, h2⟩ := h.drop K ht hkey ty
  refine ⟨w', hr, ⟨_, h1, fun x => ?_⟩, (Chg.of_grown h2.grown).mono (fun x _ e => by cases e; rfl)⟩
  by_cases hx : x = kl
  · subst hx
    rw [putF_same]
    exact ⟨has_del_same, fun d' e z => by cases e⟩
  · rw [putF_other f hx, has_del_other hx]
    exact ⟨(q x).1, fun d' e z => by rw [atKey_del_other hx]; exact (q x).2 d' e z⟩
theorem plainElem_bool_inv {P : Program} {e : TypeId} (he : P.underlying e = some .bool) {v : Value} {z : DataW Unit × List MemPlace} (h : plainElem P e v = some z) : ∃ a, v = .bool a ∧ z = (.lit (.bool a), []) := by
  unfold plainElem at h
  rw [he] at h
  cases v <;> simp at h
  exact ⟨_, rfl, h.symm⟩
end
section
variable {P : Program} {w : World} {ops : Array Oper} {rest : List Oper} {o : Oper} {a : Act} {Q : Exit → Act → World → Prop}
/-- 'm[x]' of a map of bools. -/
theorem wpList_look_bool (hg : o.guard = none) (m x : Operand) (t : TypeId) (hop : o.op = Op.lookup t m x false) (k e : TypeId) (K : Keyed P k) (ht : P.underlying t = some (.map k e)) (he : P.underlying e = some .bool) (hz : (zeroValue e).run P w = .ok (.bool false) w)
    (b n : Nat) (f : Lit → Option (DataW Unit)) (hm : a.eval m = .map (some b)) (hown : MapAt P k e w b n f) (key : Value) (kl : Lit) (hx : a.eval x = key) (hkey : keyOf P k key = some kl) (c : Bool) (hc : (f kl).getD (.lit (.bool false)) = .lit (.bool c))
    (hK : wpList P ops Q rest (a.put o.dst (.bool c)) w) : wpList P ops Q (o :: rest) a w := by
  refine wpList_plain hg fun K' hK' => ?_
  obtain ⟨v, ps, hrun, hv⟩ := hown.look K ht hz (plainElem_bool he false) hkey
  obtain ⟨c', rfl, e2⟩ := plainElem_bool_inv he hv
  rw [hc] at e2
  cases e2
  unfold Oper.wp
  simp [execOp, hop, hm, hx, hrun, Result.andThen]
  exact hK' _ _ hK
/-- 'v, ok := m[x]' of a map of ints. -/
theorem wpList_look_int (hg : o.guard = none) (m x : Operand) (t : TypeId) (hop : o.op = Op.lookup t m x true) (k e : TypeId) (q : IntKind) (K : Keyed P k) (ht : P.underlying t = some (.map k e)) (he : P.underlying e = some (.int q)) (hz : (zeroValue e).run P w = .ok (.int q 0) w)
    (b n : Nat) (f : Lit → Option (DataW Unit)) (hm : a.eval m = .map (some b)) (hown : MapAt P k e w b n f) (key : Value) (kl : Lit) (hx : a.eval x = key) (hkey : keyOf P k key = some kl) (c : Int) (hc : (f kl).getD (.lit (.int q 0)) = .lit (.int q c)) (bo : Bool) (hbo : (f kl).isSome = bo)
    (hK : wpList P ops Q rest (a.put o.dst (.tuple #[.int q c, .bool bo])) w) : wpList P ops Q (o :: rest) a w := by
  refine wpList_plain hg fun K' hK' => ?_
  obtain ⟨v, ps, hrun, hv⟩ := hown.look_ok K ht hz (plainElem_int he (by cases q <;> decide)) hkey
  obtain ⟨c', rfl, e2, _⟩ := plainElem_int_inv he hv
  rw [hc] at e2
  cases e2
  rw [hbo] at hrun
  unfold Oper.wp
  simp [execOp, hop, hm, hx, hrun, Result.andThen]
  exact hK' _ _ hK
theorem wpList_put (hg : o.guard = none) (m x v : Operand) (t : TypeId) (hop : o.op = Op.mapUpdate t m x v) (k e : TypeId) (K : Keyed P k) (ht : P.underlying t = some (.map k e)) (b n : Nat) (f : Lit → Option (DataW Unit))
    (hm : a.eval m = .map (some b)) (hown : MapAt P k e w b n f) (hn : n < maxLen) (key val : Value) (kl : Lit) (hx : a.eval x = key) (hv : a.eval v = val) (hkey : keyOf P k key = some kl) (d : DataW Unit) (ps : List MemPlace) (hval : plainElem P e val = some (d, ps))
    (hK : ∀ w', MapAt P k e w' b (n + 1) (putF f kl (some d)) → Chg (· = b) w w' → wpList P ops Q rest (a.put o.dst undef) w') : wpList P ops Q (o :: rest) a w := by
  refine wpList_plain hg fun K' hK' => ?_
  obtain ⟨w', hrun, r1, r2⟩ := hown.put K ht hn hkey hval
  unfold Oper.wp
  simp [execOp, hop, hm, hx, hv, hrun, Result.andThen]
  exact hK' _ _ (hK w' r1 r2)
theorem wpList_del (hg : o.guard = none) (m x : Operand) (t k : TypeId) (hop : o.op = Op.call { callee := Callee.builtin Builtin.delete, args := #[m, x], argTypes := #[t, k] }) (e : TypeId) (K : Keyed P k) (ht : P.underlying t = some (.map k e)) (b n : Nat) (f : Lit → Option (DataW Unit))
    (hm : a.eval m = .map (some b)) (hown : MapAt P k e w b n f) (key : Value) (kl : Lit) (hx : a.eval x = key) (hkey : keyOf P k key = some kl)
    (hK : ∀ w', MapAt P k e w' b n (putF f kl none) → Chg (· = b) w w' → wpList P ops Q rest (a.put o.dst (.tuple #[])) w') : wpList P ops Q (o :: rest) a w := by
  refine wpList_plain hg fun K' hK' => ?_
  obtain ⟨w', hrun, r1, r2⟩ := hown.del K ht hkey o.type
  unfold Oper.wp
  simp [execOp, hop, resolve, invoke, builtin, hm, hx, hrun, Result.andThen]
  exact hK' _ _ (hK w' r1 r2)
end
end Go.Proofs.YtjifdfhibkipnaaGreat
