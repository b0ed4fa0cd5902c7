/-
  Package match: All, First, Len.
-/
import Derived.Test.YtiidagdapckgjaaMHere
namespace Go.Proofs.Ytiidagdapckgjaa
open Go.RowKit Go.Maps

def hcells (l : List (Nat × Nat)) : List Value := l.flatMap fun h => [.int .i64 (h.1 : Int), .int .i64 (h.2 : Int)]
theorem hcells_append (a b : List (Nat × Nat)) : hcells (a ++ b) = hcells a ++ hcells b := by unfold hcells; rw [List.flatMap_append]
theorem Try.elemHit : ElemInfo Try.prog 32 2 16 := elemInfo_of (z := .agg #[.int .i64 0, .int .i64 0]) (by kernel_rfl) rfl (by decide)
theorem apart_grown {w : World} {base : Nat} {e : TypeId} {size n : Nat} {xs : List Value} {v v' u : Value} (h : Apart v u) (hs : SameOrNew w v v') (hu : w.ownsRow base e size u n xs) : Apart v' u := by
  intro x hx hu'
  rcases hs with hs | hs
  · rw [hs] at hx; exact h x hx hu'
  · have := hs x hx; have := (hu.lt x hu').2; omega
theorem own_kept {w w' : World} {base : Nat} {e : TypeId} {size n : Nat} {xs : List Value} {v u : Value} (h : w.ownsRow base e size u n xs) (hg : w.grownBy w' v.ownBlock) (ha : Apart v u) : w'.ownsRow base e size u n xs :=
  own_chg h (Chg.of_grown hg) (fun k hk e => ha k e hk)
/-- A slice of ints that is owned, to be read. -/
theorem own_ints {w : World} {base : Nat} {v : Value} {l : List Nat} (h : w.ownsRow base 3 1 v l.length (ints l)) : ∃ a cap, v = .slice a l.length cap ∧ l.length ≤ maxLen ∧ ∀ j (x : Nat), l[j]? = some x → ∃ g, a = some ⟨g, 0, none⟩ ∧ base ≤ g ∧ w.cell? ⟨g, j, none⟩ = some (.int .i64 (x : Int)) := by
  have h0 := h
  obtain ⟨h1, ⟨rfl, h2⟩ | ⟨g, cap, cur, rfl, hg, hh, q1, q2, q3, q4⟩⟩ := h
  · refine ⟨none, 0, by rw [h2], by rw [h2]; unfold maxLen; omega, fun j x hj => ?_⟩
    have : j < l.length := (List.getElem?_eq_some_iff.1 hj).1
    omega
  · refine ⟨_, cap, rfl, by omega, fun j x hj => ⟨g, rfl, hg, ?_⟩⟩
    have hj' : j < l.length := (List.getElem?_eq_some_iff.1 hj).1
    have := h0.cellAt (j := j) (by omega)
    rw [this]; unfold ints; rw [List.getElem?_map, hj]; rfl
theorem hitsTo_length (l : List (List UInt8)) (w : List UInt8) : ∀ n, (hitsTo l w n).length ≤ n * l.length
  | 0 => by simp [hitsTo]
  | n + 1 => by
    rw [hitsTo_succ, List.length_append, List.length_map, Nat.add_mul]
    have := hitsTo_length l w n; have := hereL_length l w n; omega

set_option maxHeartbeats 2000000 in
theorem all_any (w : World) (base : Nat) (B : MB) (cs : List (Value × Value)) (L : List (List UInt8)) (s : ByteArray) (h : MachAt w base B cs (pathsTo L L.length) (whichTo L L.length)) (hs : s.size ≤ 400) (hL : L.length ≤ 110) :
    Calls Try.prog 12 #[.pointer (some ⟨B.b, 0, none⟩), .string s] w fun e w' => ∃ v, e = .returned v ∧ w'.ownsRow w.heap.size 32 2 v (hits L s.data.toList).length (hcells (hits L s.data.toList)) ∧ Chg (fun _ => False) w w' := by
  have hsl := size_list s
  have LEN := Lib.hid (wlen_any w s (by unfold maxLen; omega))
  have hn2 : alen s.data.toList ≤ 200 := by unfold alen; omega
  have HERE := Lib.hid (fun w1 (h1 : MachAt w1 base B cs (pathsTo L L.length) (whichTo L L.length)) place hp => here_any w1 base B cs L s place h1 hs hp hL)
  have HS := Lib.hid (fun k => hitsTo_succ L s.data.toList k)
  have HLN := Lib.hid (fun k => hitsTo_length L s.data.toList k)
  have HHL := Lib.hid (fun k => hereL_length L s.data.toList k)
  have H := Lib.hid h
  clear hs hsl h
  unfold hits
  generalize alen s.data.toList = n at *
  go_enter Try.func12, Try.ntmps12
  go_wp2_with fail
  refine (LEN.out).mono ?_
  rintro e w' ⟨rfl, rfl⟩
  go_wp2
  go_loopw [5, 11] (fun lv iv wr => ∃ k : Nat, k ≤ n ∧ iv = .int .i64 k ∧ wr.ownsRow w.heap.size 32 2 lv (hitsTo L s.data.toList k).length (hcells (hitsTo L s.data.toList k)) ∧ Chg (fun _ => False) w wr) (fun _ iv _ => n - (intOf iv).toNat)
  case atStart => exact ⟨0, by omega, rfl, World.ownsRow_nil _ _ _ _, Chg.refl _ _⟩
  case round =>
    obtain ⟨k, hk, rfl, ho, hc⟩ := hrel
    have HO := Lib.hid ho
    have HC := Lib.hid hc
    clear ho hc
    by_cases hlt : k < n
    · have hS := HS.out k
      have hln := HLN.out k
      have hhl := HHL.out k
      have HE1 := Lib.hid (HERE.out wr (H.out.chg HC.out) k hlt)
      have HSK := Lib.hid hS
      clear hS
      generalize hereL L s.data.toList k = R at *
      generalize hitsTo L s.data.toList k = T at *
      have hT : T.length ≤ 22000 := Nat.le_trans hln (Nat.le_trans (Nat.mul_le_mul (by omega : k ≤ 200) hL) (by omega))
      go_wp2_with fail
      refine (HE1.out).mono ?_
      rintro e w1 ⟨v1, rfl, o1, c1⟩
      have O1 := Lib.hid o1
      have C1 := Lib.hid (HC.out.trans c1)
      have OL := Lib.hid (own_chg HO.out c1 (fun _ _ e => e))
      have hap : Apart u5 v1 := fun x hx hu => by have := (HO.out.lt x hx).2; have := (o1.lt x hu).1; omega
      have HAP := Lib.hid hap
      have hw1 : w.heap.size ≤ w1.heap.size := C1.out.size
      obtain ⟨ra, rc, rfl, hrl, _⟩ := own_ints o1
      clear o1 c1 hap HO HC HE1
      unfold maxLen at hrl
      go_wp2
      go_loopw [5, 19] (fun lv iv wq => ∃ m : Nat, m ≤ R.length ∧ iv = .int .i64 m ∧ wq.ownsRow w.heap.size 32 2 lv (T ++ (R.take m).map fun i => (k, i)).length (hcells (T ++ (R.take m).map fun i => (k, i))) ∧ wq.ownsRow wr.heap.size 3 1 (.slice ra R.length rc) R.length (ints R) ∧ Apart lv (.slice ra R.length rc) ∧ Chg (fun _ => False) w wq) (fun _ iv _ => R.length - (intOf iv).toNat)
      case atStart => exact ⟨0, by omega, rfl, by simpa using OL.out, O1.out, HAP.out, C1.out⟩
      case round =>
        obtain ⟨m, hm, rfl, ho, hr, ha, hc⟩ := hrel
        have HO := Lib.hid ho
        have HR := Lib.hid hr
        have HA := Lib.hid ha
        have HC := Lib.hid hc
        clear O1 OL HAP C1
        by_cases hlt2 : m < R.length
        · obtain ⟨x, hx⟩ : ∃ x, R[m]? = some x := ⟨_, List.getElem?_eq_getElem hlt2⟩
          obtain ⟨ra', rc', he, _, hcl⟩ := own_ints hr
          cases he
          obtain ⟨g, rfl, hg, cx⟩ := hcl m x hx
          have hlen : (T ++ (R.take m).map fun i => (k, i)).length ≤ 22200 := by rw [List.length_append, List.length_map, List.length_take]; omega
          have TS := Lib.hid (show hcells (T ++ (R.take (m + 1)).map fun i => (k, i)) = hcells (T ++ (R.take m).map fun i => (k, i)) ++ [.int .i64 (k : Int), .int .i64 (x : Int)] by
            have e : R.take (m + 1) = R.take m ++ [x] := by
              rw [List.take_succ_eq_append_getElem hlt2]
              rw [List.getElem?_eq_getElem hlt2] at hx
              rw [Option.some.inj hx]
            rw [e, List.map_append, ← List.append_assoc, hcells_append]; rfl)
          have TL := Lib.hid (show (T ++ (R.take (m + 1)).map fun i => (k, i)).length = (T ++ (R.take m).map fun i => (k, i)).length + 1 by
            simp only [List.length_append, List.length_map, List.length_take]; omega)
          generalize (T ++ (R.take m).map fun i => (k, i)) = T1 at *
          have hcs := hc.size
          clear ho hr ha hc hcl hx
          go_wp2_with (at_builtin; refine wpList_pushF rfl (.tmp 23) (.tmp 27) 28 rfl 32 2 16 Try.underlying28 Try.elemHit w.heap.size _ _ _ rfl (HO.out.alloc _) _ [.int .i64 (k : Int), .int .i64 (x : Int)] 32 (0, 0) rfl (obj_alloc_new _ _) rfl ?c1 ?c2 ?c3 ?c4 ?next)
          case c1 => intro u hu; simp at hu; rcases hu with rfl | rfl <;> rfl
          case c2 => omega
          case c3 => unfold maxLen; omega
          case c4 => simp; omega
          case next =>
            intro v' w5 o5 g5 s5
            have C5 := Lib.hid ((HC.out.alloc (.cells #[.int .i64 (k : Int), .int .i64 (x : Int)] 32)).own (HO.out.alloc _) (Chg.of_grown g5))
            have R5 := Lib.hid (own_kept (HR.out.alloc (.cells #[.int .i64 (k : Int), .int .i64 (x : Int)] 32)) g5 HA.out)
            have A5 := Lib.hid (apart_grown HA.out s5 (HR.out.alloc _))
            rw [← TS.out, ← TL.out] at o5
            have O5 := Lib.hid o5
            clear o5 g5 s5
            go_wp2
            go_roundw
            case rel => exact ⟨m + 1, by omega, by go_num, O5.out, R5.out, A5.out, C5.out⟩
            case measure => simp [intOf]; omega
        · obtain rfl : m = R.length := by omega
          rw [List.take_length, ← HSK.out] at HO
          have hdm : decide (R.length < R.length) = false := by simp
          clear ho hr ha hc hlt2
          go_wp2
          go_roundw
          case rel => exact ⟨k + 1, by omega, by go_num, HO.out, HC.out⟩
          case measure => simp [intOf]; omega
    · obtain rfl : k = n := by omega
      go_wp2
      go_ret
      exact ⟨_, rfl, HO.out, HC.out⟩
end Go.Proofs.Ytiidagdapckgjaa
