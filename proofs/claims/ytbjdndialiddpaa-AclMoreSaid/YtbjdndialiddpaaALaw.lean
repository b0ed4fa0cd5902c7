/-
  Layer 16: large, many, same.
-/
import Derived.Test.YtbjdndialiddpaaAFitR
namespace Go.Proofs.Ytbjdndialiddpaa
open Go.RowKit Go.Maps

/-- A slice of sets, to be read. -/
def SetsAt (w : World) (v : Value) (G : Nat → Prop) (ss : List (List ByteArray)) : Prop :=
  ∃ la cap, v = .slice la ss.length cap ∧ ss.length ≤ maxLen ∧ ∀ (j : Nat) s, ss[j]? = some s → ∃ lb lo sa sc, la = some ⟨lb, lo, none⟩ ∧ w.cell? ⟨lb, lo + j, none⟩ = some (.slice sa s.length sc) ∧ WordsAt w (.slice sa s.length sc) G s
theorem setsAt_one (w : World) (sa : Option Addr) (n sc : Nat) (G : Nat → Prop) (s : List ByteArray) (h : WordsAt w (.slice sa n sc) G s) : SetsAt (w.alloc (.cells #[.slice sa n sc] 34)) (.slice (some ⟨w.heap.size, 0, none⟩) 1 1) G [s] := by
  obtain ⟨_, _, e, _, _⟩ := id h
  cases e
  refine ⟨_, 1, rfl, by simp [maxLen], fun j s' hj => ?_⟩
  have hl := (List.getElem?_eq_some_iff.1 hj).1
  obtain rfl : j = 0 := by simp at hl; omega
  simp at hj
  subst hj
  exact ⟨_, 0, _, _, rfl, cell_of (obj_alloc_new _ _) rfl, h.chg (chg_alloc (fun _ => False) w _) (fun _ _ e => e)⟩
theorem setsAt_two (w : World) (sa sb : Option Addr) (n sc m sd : Nat) (G : Nat → Prop) (s t : List ByteArray) (h : WordsAt w (.slice sa n sc) G s) (h2 : WordsAt w (.slice sb m sd) G t) : SetsAt (w.alloc (.cells #[.slice sa n sc, .slice sb m sd] 34)) (.slice (some ⟨w.heap.size, 0, none⟩) 2 2) G [s, t] := by
  obtain ⟨_, _, e, _, _⟩ := id h
  cases e
  obtain ⟨_, _, e, _, _⟩ := id h2
  cases e
  refine ⟨_, 2, rfl, by simp [maxLen], fun j s' hj => ?_⟩
  have hl := (List.getElem?_eq_some_iff.1 hj).1
  rcases j with _ | _ | j
  · simp at hj
    subst hj
    exact ⟨_, 0, _, _, rfl, cell_of (obj_alloc_new _ _) rfl, h.chg (chg_alloc (fun _ => False) w _) (fun _ _ e => e)⟩
  · simp at hj
    subst hj
    exact ⟨_, 0, _, _, rfl, cell_of (obj_alloc_new _ _) rfl, h2.chg (chg_alloc (fun _ => False) w _) (fun _ _ e => e)⟩
  · simp at hl; omega
def SetOk (s : List ByteArray) : Prop := s.length ≤ 30 ∧ ∀ x ∈ s, x.size ≤ 100
/-- What isn't too much to be looked at. -/
structure NotLarge (R : List BRul) (b : Int) (ss : List (List ByteArray)) : Prop where
  few : R.length ≤ 12 ∨ 400 < R.length
  bnd : b ≤ 40 ∨ 5000 < b
  small : ∀ (j : Nat) r, j ≤ 400 → R[j]? = some r → r.1.size ≤ 100 ∧ r.2.size ≤ 100
  sets : ∀ s ∈ ss, SetOk s
def LargeRes (w : World) (F : Prop) (e : Ending) (w' : World) : Prop := ∃ r : Bool, e = .returned (.bool r) ∧ (r = false → F) ∧ Chg (fun _ => False) w w'
theorem large_yes (w w' : World) (F : Prop) (h : Chg (fun _ => False) w w') : LargeRes w F (.returned (.bool true)) w' := ⟨true, rfl, (fun h => by cases h), h⟩
theorem all_snoc {α : Type} {P : α → Prop} {l : List α} {k : Nat} {x : α} (hx : l[k]? = some x) (h : ∀ (j : Nat) y, j < k → l[j]? = some y → P y) (hp : P x) : ∀ (j : Nat) y, j < k + 1 → l[j]? = some y → P y := fun j y hj hy => by
  rcases Nat.lt_or_ge j k with q | q
  · exact h j y q hy
  · obtain rfl : j = k := by omega
    rw [hx] at hy; cases hy; exact hp
theorem all_mem {α : Type} {P : α → Prop} {l : List α} (h : ∀ (j : Nat) y, j < l.length → l[j]? = some y → P y) : ∀ x ∈ l, P x := fun x hx => by
  obtain ⟨j, hj⟩ := List.mem_iff_getElem?.1 hx
  exact h j x (List.getElem?_eq_some_iff.1 hj).1 hj
set_option maxHeartbeats 2000000 in
set_option maxRecDepth 100000 in
theorem large16_any (w : World) (rv vs : Value) (R : List BRul) (b : Int) (ss : List (List ByteArray)) (G G' : Nat → Prop) (hR : RulesAt w rv G' R) (hs : SetsAt w vs G ss) :
    Calls Try.prog 20 #[rv, .int .i64 b, vs] w (LargeRes w (NotLarge R b ss)) := by
  obtain ⟨ra, rcap, rfl, hl0, hrc⟩ := hR
  obtain ⟨sa, scap, rfl, hl1, hsc⟩ := hs
  have HRC := Lib.hid hrc
  have HSC := Lib.hid hsc
  unfold maxLen at hl0 hl1
  clear hrc hsc
  have BAD := Lib.hid (large_yes w w (NotLarge R b ss) (Chg.refl _ _))
  have GOOD := Lib.hid (show ∀ F : Prop, F → LargeRes w F (.returned (.bool false)) w from fun F h => ⟨false, rfl, fun _ => h, Chg.refl _ _⟩)
  by_cases h1 : 12 < R.length ∧ R.length ≤ 400
  · have g1 : decide (12 < (R.length : Int)) = true := decide_eq_true (by omega)
    have g2 : decide ((R.length : Int) ≤ 400) = true := decide_eq_true (by omega)
    clear h1
    go_enter Try.func20, Try.ntmps20
    go_wp2
    go_ret
    exact BAD.out
  have HF := Lib.hid (show R.length ≤ 12 ∨ 400 < R.length from by omega)
  by_cases h2 : 40 < b ∧ b ≤ 5000
  · have g3 : decide (40 < b) = true := decide_eq_true h2.1
    have g4 : decide (b ≤ 5000) = true := decide_eq_true h2.2
    clear h2
    by_cases h3 : 12 < R.length
    · have g1 : decide (12 < (R.length : Int)) = true := decide_eq_true (by omega)
      have g2 : decide ((R.length : Int) ≤ 400) = false := decide_eq_false (by omega)
      clear h1
      go_enter Try.func20, Try.ntmps20
      go_wp2
      go_ret
      exact BAD.out
    · have g1 : decide (12 < (R.length : Int)) = false := decide_eq_false (by omega)
      clear h1
      go_enter Try.func20, Try.ntmps20
      go_wp2
      go_ret
      exact BAD.out
  have HB := Lib.hid (show b ≤ 40 ∨ 5000 < b from by omega)
  have P1 : (decide (12 < (R.length : Int)) = true ∧ decide ((R.length : Int) ≤ 400) = false) ∨ decide (12 < (R.length : Int)) = false := by
    rcases HF.out with h | h
    · exact .inr (decide_eq_false (by omega))
    · exact .inl ⟨decide_eq_true (by omega), decide_eq_false (by omega)⟩
  have P2 : (decide (40 < b) = true ∧ decide (b ≤ 5000) = false) ∨ decide (40 < b) = false := by
    rcases HB.out with h | h
    · exact .inr (decide_eq_false (by omega))
    · exact .inl ⟨decide_eq_true (by omega), decide_eq_false (by omega)⟩
  clear h1 h2
  go_enter Try.func20, Try.ntmps20
  rcases P1 with ⟨g1, g2⟩ | g1 <;> rcases P2 with ⟨g3, g4⟩ | g3
  all_goals
    go_wp2
    go_loop [7] (fun iv => ∃ k : Nat, k ≤ R.length ∧ k ≤ 401 ∧ iv = .int .i64 k ∧ Hid (∀ (j : Nat) r, j < k → R[j]? = some r → r.1.size ≤ 100 ∧ r.2.size ≤ 100)) (fun iv => R.length - (intOf iv).toNat)
    case atStart => exact ⟨0, by omega, by omega, rfl, Lib.hid (fun j x hj => by omega)⟩
    case round =>
      obtain ⟨k, hk, hk4, rfl, HZ⟩ := hrel
      by_cases hlt : k < R.length ∧ k ≤ 400
      · obtain ⟨hlt, hk5⟩ := hlt
        obtain ⟨⟨x, y⟩, hx⟩ : ∃ x, R[k]? = some x := ⟨_, List.getElem?_eq_getElem hlt⟩
        obtain ⟨lb, lo, rfl, _, c0, c1, hxm, hym⟩ := HRC.out k _ hx
        have HX := Lib.hid hx
        simp only at c0 c1 hxm hym
        unfold maxLen at hxm hym
        have g5 : decide ((k : Int) ≤ 400) = true := decide_eq_true (by omega)
        clear hx
        by_cases h4 : 100 < x.size
        · have g6 : decide (100 < (x.size : Int)) = true := decide_eq_true (by omega)
          go_wp2
          go_ret
          exact BAD.out
        · have g6 : decide (100 < (x.size : Int)) = false := decide_eq_false (by omega)
          by_cases h5 : 100 < y.size
          · have g7 : decide (100 < (y.size : Int)) = true := decide_eq_true (by omega)
            go_wp2
            go_ret
            exact BAD.out
          · have g7 : decide (100 < (y.size : Int)) = false := decide_eq_false (by omega)
            have HZ2 := Lib.hid (all_snoc (P := fun r : BRul => r.1.size ≤ 100 ∧ r.2.size ≤ 100) HX.out HZ.out ⟨by simp only; omega, by simp only; omega⟩)
            clear HZ
            go_wp2
            go_round
            case rel => exact ⟨k + 1, by omega, by omega, by go_num, HZ2⟩
            case measure => simp [intOf]; omega
      · have SM := Lib.hid (show ∀ (j : Nat) r, j ≤ 400 → R[j]? = some r → r.1.size ≤ 100 ∧ r.2.size ≤ 100 from fun j r hj hr => HZ.out j r (by have := (List.getElem?_eq_some_iff.1 hr).1; omega) hr)
        have P3 : (decide ((k : Int) < (R.length : Int)) = true ∧ decide (k < R.length) = true ∧ decide ((k : Int) ≤ 400) = false) ∨ (decide ((k : Int) < (R.length : Int)) = false ∧ decide (k < R.length) = false) := by
          by_cases q : k < R.length
          · exact .inl ⟨decide_eq_true (by omega), decide_eq_true q, decide_eq_false (by omega)⟩
          · exact .inr ⟨decide_eq_false (by omega), decide_eq_false q⟩
        clear hlt HZ
        rcases P3 with ⟨p1, p2, p3⟩ | ⟨p1, p2⟩
        all_goals
          go_wp2
          go_loop [54] (fun iv => ∃ k : Nat, k ≤ ss.length ∧ iv = .int .i64 k ∧ Hid (∀ (j : Nat) s, j < k → ss[j]? = some s → SetOk s)) (fun iv => ss.length - (intOf iv).toNat)
          case atStart => exact ⟨0, by omega, rfl, Lib.hid (fun j x hj => by omega)⟩
          case round =>
            obtain ⟨m, hm, rfl, HS⟩ := hrel
            by_cases hml : m < ss.length
            · obtain ⟨s, hs⟩ : ∃ s, ss[m]? = some s := ⟨_, List.getElem?_eq_getElem hml⟩
              obtain ⟨lc, ld, ua, uc, rfl, d0, hw⟩ := HSC.out m s hs
              obtain ⟨_, _, e, hsl, hwc⟩ := hw
              cases e
              have HWC := Lib.hid hwc
              have HSS := Lib.hid hs
              unfold maxLen at hsl
              clear hwc hs
              by_cases h6 : 30 < s.length
              · have g8 : decide (30 < (s.length : Int)) = true := decide_eq_true (by omega)
                go_wp2
                go_ret
                exact BAD.out
              · have g8 : decide (30 < (s.length : Int)) = false := decide_eq_false (by omega)
                go_wp2
                go_loop [68] (fun iv => ∃ n : Nat, n ≤ s.length ∧ iv = .int .i64 n ∧ Hid (∀ (j : Nat) x, j < n → s[j]? = some x → x.size ≤ 100)) (fun iv => s.length - (intOf iv).toNat)
                case atStart => exact ⟨0, by omega, rfl, Lib.hid (fun j x hj => by omega)⟩
                case round =>
                  obtain ⟨n, hn, rfl, HW⟩ := hrel
                  by_cases hnl : n < s.length
                  · obtain ⟨x, hx⟩ : ∃ x, s[n]? = some x := ⟨_, List.getElem?_eq_getElem hnl⟩
                    obtain ⟨le, lf, rfl, _, e0, hxm⟩ := HWC.out n x hx
                    have HX := Lib.hid hx
                    unfold maxLen at hxm
                    clear hx
                    by_cases h7 : 100 < x.size
                    · have g9 : decide (100 < (x.size : Int)) = true := decide_eq_true (by omega)
                      go_wp2
                      go_ret
                      exact BAD.out
                    · have g9 : decide (100 < (x.size : Int)) = false := decide_eq_false (by omega)
                      have HW2 := Lib.hid (all_snoc (P := fun x : ByteArray => x.size ≤ 100) HX.out HW.out (by omega))
                      clear HW
                      go_wp2
                      go_round
                      case rel => exact ⟨n + 1, by omega, by go_num, HW2⟩
                      case measure => simp [intOf]; omega
                  · obtain rfl : n = s.length := by omega
                    have HS2 := Lib.hid (all_snoc (P := SetOk) HSS.out HS.out ⟨by omega, all_mem HW.out⟩)
                    clear HS HW
                    go_wp2
                    go_round
                    case rel => exact ⟨m + 1, by omega, by go_num, HS2⟩
                    case measure => simp [intOf]; omega
            · obtain rfl : m = ss.length := by omega
              have FIN := Lib.hid (GOOD.out _ (NotLarge.mk HF.out HB.out SM.out (all_mem HS.out)))
              go_wp2
              go_ret
              exact FIN.out
end Go.Proofs.Ytbjdndialiddpaa
