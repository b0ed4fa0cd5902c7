/-
  Package word: within, Find, Swap (where they are asked right).
  Package reach: Counts, machine.
  Package reach: machine.
  Layer 11: single steps (plain).
-/
import Derived.Test.YthdfplafihmejaaGreatMMach1
import Derived.Test.YthdfplafihmejaaGreatRPlain
import Derived.Test.YthdfplafihmejaaGreatKit2
import Derived.WalkLawsBesides
import Derived.WalkSpells
import Derived.Test.YthdfplafihmejaaGreatMRefs
import Derived.Laws.NewBlocks
import Derived.Laws.OwnMore
import Derived.Laws.MakeOwn
namespace Go.Proofs.YthdfplafihmejaaGreat
open Go.RowKit

theorem within_yes (w : World) (s : ByteArray) (a n : Nat) (hs : s.size ≤ maxLen) (h : a + n ≤ alen s.data.toList) :
  Calls Tryz.prog 148 #[.string s, .int .i64 a, .int .i64 n] w fun e w' => e = .returned (.bool true) ∧ w = w' := by
 have LEN := Lib.hid (fun w => wlen_any w s hs)
 have hl : alen s.data.toList ≤ 4611686018427387904 := by unfold maxLen at hs; unfold alen; rw [size_list]; omega
 generalize alen s.data.toList = N at *
 have g1 : decide ((0 : Int) ≤ (a : Int)) = true := by rw [decide_eq_true_eq]; omega
 have g2 : decide ((0 : Int) ≤ (n : Int)) = true := by rw [decide_eq_true_eq]; omega
 have g3 : decide (a ≤ N) = true := by rw [decide_eq_true_eq]; omega
 have g4 : decide ((n : Int) ≤ (N : Int) - (a : Int)) = true := by rw [decide_eq_true_eq]; omega
 clear hs
 go_enter Tryz.func148, Tryz.ntmps148
 go_wp2_with fail
 refine (LEN.out _).mono ?_
 rintro e w' ⟨rfl, rfl⟩
 go_wp2_with fail
 refine (LEN.out _).mono ?_
 rintro e w' ⟨rfl, rfl⟩
 go_wp2
 go_ret
 exact ⟨rfl, rfl⟩
theorem ba_ext {a b : ByteArray} (h : a.data.toList = b.data.toList) : a = b := by
 cases a; cases b; simp at h; rw [h]
theorem swap_eq (s v : ByteArray) (a n : Nat) : s.extract 0 (2 * a) ++ v ++ s.extract (2 * (a + n)) s.size = ⟨(swapAt s.data.toList a n v.data.toList).toArray⟩ := by
 apply ba_ext
 unfold swapAt
 simp only [ByteArray.data_append, ByteArray.data_extract, Array.toList_append, Array.toList_extract, List.extract_eq_take_drop, List.drop_zero, Nat.sub_zero]
 rw [List.take_of_length_le (l := s.data.toList.drop (2 * (a + n))) (by rw [List.length_drop, size_list]; omega)]
set_option maxRecDepth 100000 in
theorem swap_ok (w : World) (s v : ByteArray) (a n : Nat) (hs : s.size ≤ 1000000) (hv : v.size ≤ 1000000) (hs2 : s.size % 2 = 0) (hv2 : v.size % 2 = 0) (h : a + n ≤ alen s.data.toList) (h8 : alen s.data.toList - n + alen v.data.toList ≤ 8) :
  Calls Tryz.prog 130 #[.string s, .int .i64 a, .int .i64 n, .string v] w fun e w' => e = .returned (.tuple #[.string ⟨(swapAt s.data.toList a n v.data.toList).toArray⟩, .int .i64 0]) ∧ Drawn w w' := by
 have O1 := Lib.hid (wodd_no w s (by unfold maxLen; omega) hs2)
 have O2 := Lib.hid (wodd_no w v (by unfold maxLen; omega) hv2)
 have WI := Lib.hid (within_yes w s a n (by unfold maxLen; omega) h)
 have L1 := Lib.hid (wlen_any w s (by unfold maxLen; omega))
 have L2 := Lib.hid (wlen_any w v (by unfold maxLen; omega))
 have hN : s.size = 2 * alen s.data.toList := by unfold alen; rw [size_list]; omega
 have hM : v.size = 2 * alen v.data.toList := by unfold alen; rw [size_list]; omega
 have EQ := Lib.hid (swap_eq s v a n)
 generalize alen s.data.toList = N at *
 generalize alen v.data.toList = M at *
 have g1 : decide ((8 : Int) < (N : Int) - (n : Int) + (M : Int)) = false := by rw [decide_eq_false_iff_not]; omega
 go_enter Tryz.func130, Tryz.ntmps130
 go_wp2_with fail
 refine (O1.out).mono ?_
 rintro e w' ⟨rfl, rfl⟩
 go_wp2_with fail
 refine (O2.out).mono ?_
 rintro e w' ⟨rfl, rfl⟩
 go_wp2_with fail
 refine (WI.out).mono ?_
 rintro e w' ⟨rfl, rfl⟩
 go_wp2_with fail
 refine (L1.out).mono ?_
 rintro e w' ⟨rfl, rfl⟩
 go_wp2_with fail
 refine (L2.out).mono ?_
 rintro e w' ⟨rfl, rfl⟩
 go_wp2
 have m1 : IntKind.i64.wrap (2 * (a : Int)) = 2 * (a : Int) := by rw [IntKind.wrap_i64]; omega
 have m2 : IntKind.i64.wrap ((a : Int) + (n : Int)) = (a : Int) + (n : Int) := by rw [IntKind.wrap_i64]; omega
 have m3 : IntKind.i64.wrap (2 * ((a : Int) + (n : Int))) = 2 * ((a : Int) + (n : Int)) := by rw [IntKind.wrap_i64]; omega
 have t1 : (2 * (a : Int)).toNat = 2 * a := by omega
 have t2 : (2 * ((a : Int) + (n : Int))).toNat = 2 * (a + n) := by omega
 have b1 : 0 ≤ 2 * (a : Int) := by omega
 have b2 : 2 * (a : Int) ≤ (s.size : Int) := by omega
 have b3 : 0 ≤ 2 * ((a : Int) + (n : Int)) := by omega
 have b4 : 2 * ((a : Int) + (n : Int)) ≤ (s.size : Int) := by omega
 have z1 : (s.extract 0 (2 * a)).size ≤ 1000000 := by rw [ByteArray.size_extract]; omega
 have z2 : (s.extract (2 * (a + n)) s.size).size ≤ 1000000 := by rw [ByteArray.size_extract]; omega
 have z3 : (s.extract 0 (2 * a) ++ v).size ≤ 2000000 := by rw [ByteArray.size_append]; omega
 have y1 : (s.extract 0 (2 * a)).size + v.size ≤ 9223372036854775807 := by omega
 have y2 : (s.extract 0 (2 * a) ++ v).size + (s.extract (2 * (a + n)) s.size).size ≤ 9223372036854775807 := by omega
 have y3 : min (2 * a) s.size + v.size ≤ 9223372036854775807 := by omega
 have y4 : min (2 * a) s.size + v.size + (s.size - 2 * (a + n)) ≤ 9223372036854775807 := by omega
 clear hN hM h h8 g1 hs hv hs2 hv2
 go_quiet (fail)
 rename_i nq
 go_wp2
 go_ret2
 exact ⟨congrArg (fun x => Ending.returned (.tuple #[.string x, .int .i64 0])) EQ.out, nq, rfl⟩
/-- The first place from i on, within f of them. -/
def findGo (w v : Wd) (i : Nat) : Nat → Int
 | 0 => -1
 | f + 1 => if (w.drop (2 * i)).take v.length = v then i else findGo w v (i + 1) f
def findI (w v : Wd) (i : Nat) : Int := findGo w v i (alen w + 1 - alen v - i)
theorem findI_no {w v : Wd} {i : Nat} (h : alen w < i + alen v) : findI w v i = -1 := by
 unfold findI; rw [show alen w + 1 - alen v - i = 0 by omega]; rfl
theorem findI_hit {w v : Wd} {i : Nat} (h : i + alen v ≤ alen w) (e : (w.drop (2 * i)).take v.length = v) : findI w v i = i := by
 unfold findI; rw [show alen w + 1 - alen v - i = (alen w - alen v - i) + 1 by omega, findGo, if_pos e]
theorem findI_next {w v : Wd} {i : Nat} (h : i + alen v ≤ alen w) (e : ¬ (w.drop (2 * i)).take v.length = v) : findI w v i = findI w v (i + 1) := by
 unfold findI; rw [show alen w + 1 - alen v - i = (alen w + 1 - alen v - (i + 1)) + 1 by omega, findGo, if_neg e]
theorem findGo_ge (w v : Wd) : ∀ (f i : Nat), findGo w v i f = -1 ∨ (i : Int) ≤ findGo w v i f
 | 0, i => .inl rfl
 | f + 1, i => by
  unfold findGo
  split
  ·exact .inr (Int.le_refl _)
  ·rcases findGo_ge w v f (i + 1) with h | h
   ·exact .inl h
   ·exact .inr (by omega)
/-- It stands there, just if that is the first place. -/
theorem findI_iff {w v : Wd} {i : Nat} : findI w v i = i ↔ i + alen v ≤ alen w ∧ (w.drop (2 * i)).take v.length = v := by
 constructor
 ·intro h
  by_cases h1 : i + alen v ≤ alen w
  ·refine ⟨h1, ?_⟩
   by_cases h2 : (w.drop (2 * i)).take v.length = v
   ·exact h2
   ·rw [findI_next h1 h2] at h
    have := findGo_ge w v (alen w + 1 - alen v - (i + 1)) (i + 1)
    unfold findI at h
    omega
  ·rw [findI_no (by omega)] at h
   omega
 ·rintro ⟨h1, h2⟩
  exact findI_hit h1 h2
theorem cut_list (s v : ByteArray) (i : Nat) : ((s.extract (2 * i) (2 * i + v.size)).toList == v.toList) = decide ((s.data.toList.drop (2 * i)).take v.data.toList.length = v.data.toList) := by
 rw [cut_eq, Bool.eq_iff_iff, beq_iff_eq, decide_eq_true_eq]
end Go.Proofs.YthdfplafihmejaaGreat

namespace Go.Proofs.YthdfplafihmejaaGreat
open Go.RowKit Go.Maps

abbrev BRul := ByteArray × ByteArray
def brul (r : BRul) : Rul := (r.1.data.toList, r.2.data.toList)
def ruleV (r : BRul) : Value := .agg #[.string r.1, .string r.2]
/-- Rules, to be read. -/
def RulesAt (w : World) (v : Value) (G : Nat → Prop) (R : List BRul) : Prop :=
 ∃ la cap, v = .slice la R.length cap ∧ R.length ≤ maxLen ∧ ∀ (j : Nat) r, R[j]? = some r → ∃ lb lo, la = some ⟨lb, lo, none⟩ ∧ G lb ∧ w.cell? ⟨lb, lo + j * 2, none⟩ = some (.string r.1) ∧ w.cell? ⟨lb, lo + j * 2 + 1, none⟩ = some (.string r.2) ∧ r.1.size ≤ maxLen ∧ r.2.size ≤ maxLen
theorem RulesAt.chg {S : Nat → Prop} {w w' : World} {v : Value} {G : Nat → Prop} {R : List BRul} (h : RulesAt w v G R) (hc : Chg S w w') (hs : ∀ k, G k → ¬ S k) : RulesAt w' v G R := by
 obtain ⟨la, cap, h1, h2, h3⟩ := h
 exact ⟨la, cap, h1, h2, fun j r hj => by obtain ⟨lb, lo, q1, q2, q3, q4, q5⟩ := h3 j r hj; exact ⟨lb, lo, q1, q2, cell_chg hc (hs lb q2) q3, cell_chg hc (hs lb q2) q4, q5⟩⟩
/-- The blocks of a world behind which only new ones were made. -/
theorem drawn_alloc_chg {w w' : World} {o : Obj} (h : Drawn (w.alloc o) w') : Chg (fun _ => False) w w' := (chg_alloc _ w o).trans h.chg
set_option maxRecDepth 100000 in
theorem counts_any (w : World) (r : BRul) (h1 : r.1.size ≤ maxLen) (h2 : r.2.size ≤ maxLen) :
  Calls Tryz.prog 128 #[ruleV r] w fun e w' => e = .returned (.bool (countsB (brul r))) ∧ Chg (fun _ => False) w w' := by
 obtain ⟨a, b⟩ := r
 simp only at h1 h2
 have MA := Lib.hid (fun w => wmay_q w a h1)
 have MB := Lib.hid (fun w => wmay_q w b h2)
 have LA := Lib.hid (fun w => wlen_any w a h1)
 have LB := Lib.hid (fun w => wlen_any w b h2)
 have CB := Lib.hid (show countsB (brul (a, b)) = (mayB a.data.toList && mayB b.data.toList && decide (alen b.data.toList ≤ alen a.data.toList)) from rfl)
 clear h1 h2
 unfold ruleV
 simp only
 generalize alen a.data.toList = N at *
 generalize alen b.data.toList = M at *
 cases ha : mayB a.data.toList with
 | false =>
  rw [ha] at MA CB
  clear ha
  go_enter Tryz.func128, Tryz.ntmps128
  go_wp2_with fail
  go_quiet ((go_at_call 49; exact quiet_drawn (fun n => MA.out _)))
  rename_i nq
  go_wp2
  go_ret
  exact ⟨by rw [CB.out]; rfl, (chg_alloc _ w _).drewN nq⟩
 | true =>
  rw [ha] at MA CB
  clear ha
  cases hb : mayB b.data.toList with
  | false =>
   rw [hb] at MB CB
   clear hb
   go_enter Tryz.func128, Tryz.ntmps128
   go_wp2_with fail
   go_quiet ((go_at_call 49; (first | with_reducible exact quiet_drawn (fun n => MA.out _) | with_reducible exact quiet_drawn (fun n => MB.out _))))
   rename_i nq
   go_wp2
   go_ret
   exact ⟨by rw [CB.out]; rfl, (chg_alloc _ w _).drewN nq⟩
  | true =>
   rw [hb] at MB CB
   clear hb
   cases hl : decide (M ≤ N) with
   | false =>
    rw [hl] at CB
    go_enter Tryz.func128, Tryz.ntmps128
    go_wp2_with fail
    go_quiet ((first | (go_at_call 49; (first | with_reducible exact quiet_drawn (fun n => MA.out _) | with_reducible exact quiet_drawn (fun n => MB.out _))) | (go_at_call 80; (first | with_reducible exact quiet_at (fun n => LA.out _) | with_reducible exact quiet_at (fun n => LB.out _)))))
    rename_i nq
    go_wp2
    go_ret
    exact ⟨by rw [CB.out]; rfl, (chg_alloc _ w _).drewN nq⟩
   | true =>
    rw [hl] at CB
    go_enter Tryz.func128, Tryz.ntmps128
    go_wp2_with fail
    go_quiet ((first | (go_at_call 49; (first | with_reducible exact quiet_drawn (fun n => MA.out _) | with_reducible exact quiet_drawn (fun n => MB.out _))) | (go_at_call 80; (first | with_reducible exact quiet_at (fun n => LA.out _) | with_reducible exact quiet_at (fun n => LB.out _)))))
    rename_i nq
    go_wp2
    go_ret
    exact ⟨by rw [CB.out]; rfl, (chg_alloc _ w _).drewN nq⟩
end Go.Proofs.YthdfplafihmejaaGreat

namespace Go.Proofs.YthdfplafihmejaaGreat
open Go.RowKit Go.Maps

def emptyS : ByteArray := ⟨#[]⟩
def fromsB (R : List BRul) : List ByteArray := R.map fun r => if countsB (brul r) then r.1 else emptyS
theorem fromsB_lists (R : List BRul) : lists (fromsB R) = froms (R.map brul) := by
 unfold lists fromsB froms
 rw [List.map_map, List.map_map]
 apply List.map_congr_left
 intro r _
 simp only [Function.comp]
 split <;> simp [brul, emptyS, *]
theorem fromsB_length (R : List BRul) : (fromsB R).length = R.length := by simp [fromsB]
theorem madeCells_one (z : Value) (n : Nat) : madeCells #[z] n = (reps n z).toArray := by
 unfold madeCells reps
 apply Array.ext
 ·simp
 ·intro i h1 h2; simp [Nat.mod_one]
theorem Tryz.makeWords (w : World) (n : Nat) (hn : n ≤ 1000) : (Instr.makeSlice 25 (.int .i64 n) (.int .i64 n)).run Tryz.prog w = .ok (.slice (some ⟨w.heap.size, 0, none⟩) n n) (w.alloc (.cells (reps n (.string emptyS)).toArray 57)) := by
 obtain ⟨i, hi, hz0, hz1, hz2⟩ := info_parts (show (Tryz.prog.info? 57).map (fun i => (i.zero, i.size, i.bytes)) = some (some (.string emptyS), 1, 16) by kernel_rfl)
 have := run_make (P := Tryz.prog) w 25 57 i _ Tryz.underlying25 hi hz0 .i64 .i64 n n (by omega) (by omega) (by rw [hz2]; omega) (by omega)
 rw [this, hz1]
 simp only [Int.toNat_natCast, Value.cells, Nat.mul_one]
 rw [madeCells_one]
/-- What the words are behind k rounds. -/
def fromsAt (R : List BRul) (k : Nat) : List ByteArray := (fromsB R).take k ++ List.replicate (R.length - k) emptyS
theorem fromsAt_length (R : List BRul) (k : Nat) (hk : k ≤ R.length) : (fromsAt R k).length = R.length := by
 unfold fromsAt; rw [List.length_append, List.length_take, fromsB_length, List.length_replicate]; omega
theorem fromsAt_end (R : List BRul) : fromsAt R R.length = fromsB R := by
 unfold fromsAt; rw [List.take_of_length_le (by rw [fromsB_length]; omega), Nat.sub_self]; simp
theorem fromsAt_succ (R : List BRul) (k : Nat) (hk : k < R.length) : fromsAt R (k + 1) = (fromsAt R k).set k (if countsB (brul R[k]) then R[k].1 else emptyS) := by
 have hl : ((fromsB R).take k).length = k := by rw [List.length_take, fromsB_length]; omega
 have hg : (fromsB R)[k]? = some (if countsB (brul R[k]) then R[k].1 else emptyS) := by
  unfold fromsB; rw [List.getElem?_map, List.getElem?_eq_getElem hk]; rfl
 unfold fromsAt
 rw [List.set_append_right _ _ (by omega), hl, Nat.sub_self, show R.length - k = (R.length - (k + 1)) + 1 by omega, List.replicate_succ, List.set_cons_zero, List.take_add_one, hg, List.append_assoc]; rfl
theorem fromsAt_same (R : List BRul) (k : Nat) (hk : k < R.length) (h : countsB (brul R[k]) = false) : fromsAt R (k + 1) = fromsAt R k := by
 rw [fromsAt_succ R k hk, h]
 have hl : ((fromsB R).take k).length = k := by rw [List.length_take, fromsB_length]; omega
 unfold fromsAt
 rw [List.set_append_right _ _ (by omega), hl, Nat.sub_self, show R.length - k = (R.length - (k + 1)) + 1 by omega, List.replicate_succ, List.set_cons_zero]; rfl
theorem wcells_set (l : List ByteArray) (k : Nat) (x : ByteArray) : (wcells l).set k (.string x) = wcells (l.set k x) := by unfold wcells; rw [List.map_set]
theorem EdgeMap.base {w : World} {base base' L : Nat} {mv : Value} {f : Nat → Option Nat} (h : EdgeMap w base L mv f) (hb : base' ≤ base) : EdgeMap w base' L mv f := by
 rcases h with h | ⟨bm, n, D, rfl, h1, r⟩
 ·exact .inl h
 ·exact .inr ⟨bm, n, D, rfl, by omega, r⟩
theorem mach_base {w : World} {base base' : Nat} {B : MB} {cs : List (Value × Value)} {ps : List (List Nat)} {wh : List Nat → List Nat} (h : MachAt w base B cs ps wh) (hb : base' ≤ base) : MachAt w base' B cs ps wh :=
 ⟨h.hb, own_base h.hg hb, h.len, fun k p c hp hc => (h.em k p c hp hc).base hb, fun k p c hp hc => own_base (h.ew k p c hp hc) hb, h.ap, h.ag, h.bg, Nat.le_trans hb h.bb⟩
set_option maxHeartbeats 1600000 in
set_option maxRecDepth 100000 in
theorem machine_any (w : World) (v : Value) (R : List BRul) (hv : RulesAt w v (· < w.heap.size) R) (hR : R.length ≤ 400) (hs : ∀ r ∈ R, r.1.size ≤ 400) :
  Calls Tryz.prog 157 #[v] w fun e w' => ∃ B cs, e = .returned (.pointer (some ⟨B.b, 0, none⟩)) ∧ MachAt w' w.heap.size B cs (pathsTo (froms (R.map brul)) (froms (R.map brul)).length) (whichTo (froms (R.map brul)) (froms (R.map brul)).length) ∧ Chg (fun _ => False) w w' := by
 obtain ⟨la, cap, rfl, _, hl3⟩ := hv
 have HL3 := Lib.hid hl3
 have HS := Lib.hid hs
 clear hl3 hs
 have hmk := Tryz.makeWords w R.length (by omega)
 have O1 := Lib.hid (show (w.alloc (.cells (reps R.length (.string emptyS)).toArray 57)).ownsRow w.heap.size 57 1 (.slice (some ⟨w.heap.size, 0, none⟩) R.length R.length) R.length (wcells (fromsAt R 0)) by
  have := World.ownsRow_lit (base := w.heap.size) (e := 57) (size := 1) w (reps R.length (.string emptyS)).toArray R.length (Nat.le_refl _) (by unfold maxLen; omega) (by simp [reps_length])
  have e : (reps R.length (.string emptyS)).toArray.toList = wcells (fromsAt R 0) := by
   unfold fromsAt wcells reps; simp
  rw [e] at this
  exact this)
 have FL := Lib.hid (show ∀ k, k < R.length → ∃ a b lb lo, R[k]? = some (a, b) ∧ la = some ⟨lb, lo, none⟩ ∧ lb < w.heap.size ∧ w.cell? ⟨lb, lo + k * 2, none⟩ = some (.string a) ∧ w.cell? ⟨lb, lo + k * 2 + 1, none⟩ = some (.string b) ∧ a.size ≤ maxLen ∧ b.size ≤ maxLen from fun k hk => by
  obtain ⟨lb, lo, q⟩ := HL3.out k _ (List.getElem?_eq_getElem hk)
  exact ⟨_, _, lb, lo, List.getElem?_eq_getElem hk, q⟩)
 clear HL3
 go_enter Tryz.func157, Tryz.ntmps157
 go_wp2
 clear hmk
 go_loopw [11] (fun iv wr => ∃ k : Nat, k ≤ R.length ∧ iv = .int .i64 k ∧ Hid (Chg (fun _ => False) w wr ∧ wr.ownsRow w.heap.size 57 1 (.slice (some ⟨w.heap.size, 0, none⟩) R.length R.length) R.length (wcells (fromsAt R k)))) (fun iv _ => R.length - (intOf iv).toNat)
 case atStart => exact ⟨0, by omega, rfl, Lib.hid ⟨chg_alloc _ _ _, O1.out⟩⟩
 case round =>
  obtain ⟨k, hk, rfl, HR⟩ := hrel
  by_cases hlt : k < R.length
  ·obtain ⟨hc, ho⟩ := HR.out
   obtain ⟨a, b, lb, lo, hg, rfl, hlb, ca, cb, ha, hb⟩ := FL.out k hlt
   have c0 := cell_chg hc (fun e => e) ca
   have c1 := cell_chg hc (fun e => e) cb
   have CO := Lib.hid (counts_any (wr.alloc (.cells #[.string a, .string b] 66)) (a, b) ha hb)
   have hgk : R[k] = (a, b) := by rw [List.getElem?_eq_getElem hlt] at hg; exact Option.some.inj hg
   have HC := Lib.hid (hc.alloc (.cells #[.string a, .string b] 66))
   have HO := Lib.hid (ho.alloc (.cells #[.string a, .string b] 66))
   have SU := Lib.hid (fromsAt_succ R k hlt)
   have SA := Lib.hid (fromsAt_same R k hlt)
   rw [hgk] at SU SA
   have hwr : w.heap.size ≤ wr.heap.size := hc.size
   have e0 : (wr.alloc (.cells #[.string a, .string b] 66)).heap[wr.heap.size]? = some (.cells #[.string a, .string b] 66 (0, 0)) := obj_alloc_new _ _
   have E0 := Lib.hid e0
   clear HR hc ho hg hgk ca cb ha hb e0
   unfold ruleV at CO
   simp only at CO
   cases hcb : countsB (brul (a, b)) with
   | false =>
    rw [hcb] at CO
    have SA2 := Lib.hid (SA.out hcb)
    clear hcb SU SA
    go_wp2_with fail
    (with_reducible refine (CO.out).mono ?_)
    rintro e w2 ⟨rfl, k2⟩
    have K2 := Lib.hid (HC.out.trans k2)
    have O2 := Lib.hid (own_chg HO.out k2 (fun _ _ e => e))
    clear k2
    go_wp2
    go_roundw
    case rel => exact ⟨k + 1, by omega, by go_num, Lib.hid ⟨K2.out, by rw [SA2.out]; exact O2.out⟩⟩
    case measure => simp [intOf]; omega
   | true =>
    rw [hcb] at CO SU
    clear hcb SA
    go_wp2_with fail
    (with_reducible refine (CO.out).mono ?_)
    rintro e w2 ⟨rfl, k2⟩
    have K2 := Lib.hid (HC.out.trans k2)
    have o2 := own_chg HO.out k2 (fun _ _ e => e)
    have b2 := k2.obj (fun e => e) E0.out
    have d0 : w2.cell? ⟨wr.heap.size, 0, none⟩ = some (.string a) := cell_of b2 rfl
    have d1 := o2.cellAt k (by omega)
    have hxl := o2.1
    rw [List.getElem?_eq_getElem (by omega)] at d1
    generalize (wcells (fromsAt R k))[k] = u at d1
    have f1 := o2.frozenAt k
    have ST := Lib.hid (o2.stored k (.string a))
    clear k2 o2 b2 hxl
    go_wp2
    go_roundw
    case rel => exact ⟨k + 1, by omega, by go_num, Lib.hid ⟨K2.out.grown ST.out.2 (fun x hx hlt => by cases hx; omega), by rw [SU.out]; simp only [if_true]; rw [← wcells_set]; exact ST.out.1⟩⟩
    case measure => simp [intOf]; omega
  ·obtain rfl : k = R.length := by omega
   obtain ⟨hc, ho⟩ := HR.out
   rw [fromsAt_end] at ho
   have hfl : (fromsB R).length = R.length := fromsB_length R
   have hf4 : ∀ x ∈ fromsB R, x.size ≤ 400 := fun x hx => by
    unfold fromsB at hx
    rw [List.mem_map] at hx
    obtain ⟨r, hr, rfl⟩ := hx
    split
    ·exact HS.out r hr
    ·unfold emptyS; decide
   have NEW := Lib.hid (new_any wr (.slice (some ⟨w.heap.size, 0, none⟩) R.length R.length) (fromsB R) (wordsAt_own (by rw [hfl]; exact ho) hf4) (by omega) hf4)
   have FE := Lib.hid (fromsB_lists R)
   have FLN := Lib.hid (show (froms (R.map brul)).length = R.length by rw [froms_length, List.length_map])
   have FBL := Lib.hid hfl
   have HC := Lib.hid hc
   clear HR hc ho hfl hf4
   go_wp2_with fail
   (with_reducible refine (NEW.out).mono ?_)
   rintro e w2 ⟨B, cs, rfl, _, m2, k2⟩
   have M2 := Lib.hid m2
   have K2 := Lib.hid k2
   clear m2 k2
   go_wp2
   go_ret
   refine ⟨B, cs, rfl, ?_, HC.out.trans K2.out⟩
   have := M2.out
   rw [FE.out, FBL.out] at this
   rw [FLN.out]
   exact mach_base this HC.out.size
end Go.Proofs.YthdfplafihmejaaGreat

namespace Go.Proofs.YthdfplafihmejaaGreat

/-- A step that can be done, of whatever numbers. -/
def StepI (R : List Rul) (w : Wd) (x : Int × Int) : Prop := 0 ≤ x.2 ∧ x.2 < R.length ∧ countsB (ruleAt R x.2.toNat) = true ∧ 0 ≤ x.1 ∧ x.1 + alen (ruleAt R x.2.toNat).1 ≤ alen w ∧ (w.drop (2 * x.1.toNat)).take (ruleAt R x.2.toNat).1.length = (ruleAt R x.2.toNat).1
instance (R : List Rul) (w : Wd) (x : Int × Int) : Decidable (StepI R w x) := by unfold StepI; infer_instance
def stepI (R : List Rul) (w : Wd) (x : Int × Int) : Option Wd := if StepI R w x then some (useAt R w (x.1.toNat, x.2.toNat)) else none
def walkI (R : List Rul) (w : Wd) : List (Int × Int) → Option Wd
 | [] => some w
 | x :: t => match stepI R w x with
  | none => none
  | some u => walkI R u t
theorem step_hits {R : List Rul} {w : Wd} {a k : Nat} : StepI R w ((a : Int), (k : Int)) ↔ (a, k) ∈ hits (froms R) w := by
 unfold StepI hits
 rw [hitsTo_mem, froms_length, froms_get]
 simp only [Int.toNat_natCast]
 constructor
 ·rintro ⟨_, h2, h3, _, h5, h6⟩
  have hm := ((counts_iff _).1 h3).1
  have hp := may_pos hm
  have hl : (ruleAt R k).1.length = 2 * alen (ruleAt R k).1 := by unfold alen; omega
  refine ⟨by omega, by omega, ?_⟩
  rw [h3, if_pos rfl]
  exact (stands_iff _ _ _).2 ⟨hm, by omega, h6⟩
 ·rintro ⟨h1, h2, h3⟩
  cases hc : countsB (ruleAt R k) with
  | false =>
   rw [hc] at h3
   have := (may_pos ((stands_iff _ _ _).1 h3).1).1
   simp at this
  | true =>
   rw [hc, if_pos rfl] at h3
   obtain ⟨q1, q2, q3⟩ := (stands_iff _ _ _).1 h3
   have hp := may_pos q1
   have hl : (ruleAt R k).1.length = 2 * alen (ruleAt R k).1 := by unfold alen; omega
   exact ⟨by omega, by omega, rfl, by omega, by omega, q3⟩
theorem walkI_walkP (R : List Rul) : ∀ (l : List (Nat × Nat)) (w : Wd), walkI R w (l.map fun h => ((h.1 : Int), (h.2 : Int))) = walkP R w l
 | [], w => rfl
 | (a, k) :: t, w => by
  simp only [List.map_cons, walkI, walkP, stepI]
  by_cases h : (a, k) ∈ hits (froms R) w
  ·rw [if_pos h, if_pos (step_hits.2 h)]
   simp only [Int.toNat_natCast]
   exact walkI_walkP R t _
  ·rw [if_neg h, if_neg (fun q => h (step_hits.1 q))]
theorem stepI_may {R : List Rul} {w u : Wd} {x : Int × Int} (hw : mayB w = true) (h : stepI R w x = some u) : mayB u = true ∧ u.length ≤ w.length := by
 unfold stepI at h
 split at h
 ·rename_i hs
  cases h
  obtain ⟨h1, h2, h3, h4, h5, h6⟩ := hs
  obtain ⟨k1, k2, k3⟩ := (counts_iff _).1 h3
  have p1 := may_pos k1
  have p2 := may_pos k2
  obtain ⟨q1, q2⟩ := swap_may hw k2 (a := x.1.toNat) (n := alen (ruleAt R x.2.toNat).1) (by omega) k3
  refine ⟨q1, ?_⟩
  show (swapAt _ _ _ _).length ≤ _
  rw [q2]
  unfold alen at k3 h5 ⊢
  omega
 ·cases h
theorem walkI_snoc (R : List Rul) : ∀ (l : List (Int × Int)) (w : Wd) (x : Int × Int), walkI R w (l ++ [x]) = (walkI R w l).bind (fun u => stepI R u x)
 | [], w, x => by
  simp only [List.nil_append, walkI, Option.bind_some]
  cases stepI R w x <;> rfl
 | y :: t, w, x => by
  simp only [List.cons_append, walkI]
  cases stepI R w y with
  | none => rfl
  | some u => exact walkI_snoc R t u x
theorem walkI_none_append (R : List Rul) : ∀ (l m : List (Int × Int)) (w : Wd), walkI R w l = none → walkI R w (l ++ m) = none
 | [], m, w, h => by cases h
 | y :: t, m, w, h => by
  simp only [List.cons_append, walkI] at h ⊢
  cases hs : stepI R w y with
  | none => rfl
  | some u => rw [hs] at h; exact walkI_none_append R t m u h
/-- What the numbers of a step say. -/
theorem stepI_no_rule {R : List Rul} {w : Wd} {x : Int × Int} (h : ¬ (0 ≤ x.2 ∧ x.2 < R.length ∧ countsB (ruleAt R x.2.toNat) = true)) : stepI R w x = none := if_neg (fun q => h ⟨q.1, q.2.1, q.2.2.1⟩)
theorem stepI_no_place {R : List Rul} {w : Wd} {x : Int × Int} (h : ¬ (0 ≤ x.1 ∧ x.1 + alen (ruleAt R x.2.toNat).1 ≤ alen w ∧ (w.drop (2 * x.1.toNat)).take (ruleAt R x.2.toNat).1.length = (ruleAt R x.2.toNat).1)) : stepI R w x = none := if_neg (fun q => h q.2.2.2)
end Go.Proofs.YthdfplafihmejaaGreat
