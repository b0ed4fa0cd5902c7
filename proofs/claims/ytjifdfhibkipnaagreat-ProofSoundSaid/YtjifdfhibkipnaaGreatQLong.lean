/-
  QLarge: what else.
-/
import Derived.Test.YtjifdfhibkipnaaGreatQLarge
namespace Go.Proofs.YtjifdfhibkipnaaGreat
open Go.RowKit Go.Maps

theorem wcells_pair (a b : ByteArray) : wcells [a, b] = [.string a, .string b] := rfl
end Go.Proofs.YtjifdfhibkipnaaGreat

namespace Go.Proofs.YtjifdfhibkipnaaGreat
open Go.RowKit Go.Maps

set_option maxHeartbeats 4000000 in
set_option maxRecDepth 100000 in
theorem long13_any (w : World) (iv sv : Value) (G : Nat → Prop) (p : BProof) (hp : ProofAt w iv sv G p) :
    Calls Tryz.prog 15 #[.agg #[iv, sv]] w (Long13Res w p) := by
  have HP := Lib.hid hp
  have il := hp.items
  have sl := hp.steps.len
  obtain ⟨ia, ic, rfl, il, _⟩ := il
  unfold maxLen at il
  obtain ⟨sa, sc, rfl⟩ := hp.steps.shape
  have FIN := Lib.hid (show (p.items.length ≤ 12 ∧ p.steps.length ≤ 60) → (∀ (j : Nat) x, j < p.items.length → p.items[j]? = some x → x.paths.length ≤ 20 ∧ ∀ l ∈ x.paths, l.length ≤ 60) → Short13 p from fun h1 h2 => ⟨h1.1, h1.2, fun x hx => by
    obtain ⟨j, hj⟩ := List.mem_iff_getElem?.1 hx
    exact h2 j x (List.getElem?_eq_some_iff.1 hj).1 hj⟩)
  clear hp
  have OB := Lib.hid (obj_alloc_new w (.cells #[.slice ia p.items.length ic, .slice sa p.steps.length sc] 30))
  have KB := Lib.hid (chg_alloc (fun _ => False) w (.cells #[.slice ia p.items.length ic, .slice sa p.steps.length sc] 30))
  go_enter Tryz.func15, Tryz.ntmps15
  go_upto_region 1 with fail
  obtain ⟨b0, hb0⟩ : ∃ b0, b0 = w.heap.size := ⟨_, rfl⟩
  rw [← hb0] at OB
  rw [← hb0]
  generalize w.alloc (.cells #[.slice ia p.items.length ic, .slice sa p.steps.length sc] 30) = w1 at *
  have q0 := cell_of (o := 0) OB.out rfl
  have q1 := cell_of (o := 1) OB.out rfl
  clear hb0
  go_cut [14] (fun cv wc => ∃ x : Bool, cv = .bool x ∧ Hid (w1 = wc) ∧ Hid (x = false → p.items.length ≤ 12 ∧ p.steps.length ≤ 60))
  case first =>
    by_cases h8 : 12 < p.items.length
    · have g8 : decide (12 < (p.items.length : Int)) = true := decide_eq_true (by omega)
      have g8' : decide (12 < p.items.length) = true := decide_eq_true h8
      go_wp2
      go_meet
      case rel => exact ⟨true, rfl, Lib.hid rfl, Lib.hid (fun e => by cases e)⟩
    have g8 : decide (12 < (p.items.length : Int)) = false := decide_eq_false (by omega)
    have g8' : decide (12 < p.items.length) = false := decide_eq_false h8
    by_cases h12 : 60 < p.steps.length
    · have g12 : decide (60 < (p.steps.length : Int)) = true := decide_eq_true (by omega)
      have g12' : decide (60 < p.steps.length) = true := decide_eq_true h12
      go_wp2
      go_meet
      case rel => exact ⟨true, rfl, Lib.hid rfl, Lib.hid (fun e => by cases e)⟩
    have g12 : decide (60 < (p.steps.length : Int)) = false := decide_eq_false (by omega)
    have g12' : decide (60 < p.steps.length) = false := decide_eq_false h12
    have RR := Lib.hid (show p.items.length ≤ 12 ∧ p.steps.length ≤ 60 from ⟨by omega, by omega⟩)
    go_wp2
    go_meet
    case rel => exact ⟨false, rfl, Lib.hid rfl, Lib.hid (fun _ => RR.out)⟩
  case rest =>
    obtain ⟨x, rfl, hw, hx⟩ := hcut
    have hw := hw.out
    subst hw
    cases x with
    | true =>
      go_wp2
      go_ret
      exact ⟨true, rfl, KB.out, fun e => by cases e⟩
    | false =>
    have HX := Lib.hid (hx.out rfl)
    have hi12 := HX.out.1
    clear hx
    go_wp2
    go_loopw [18] (fun iv wr => ∃ k : Nat, k ≤ p.items.length ∧ iv = .int .i64 k ∧ Hid (w1 = wr) ∧ Hid (∀ (j : Nat) x, j < k → p.items[j]? = some x → x.paths.length ≤ 20 ∧ ∀ l ∈ x.paths, l.length ≤ 60)) (fun iv _ => p.items.length - (intOf iv).toNat)
    case atStart => exact ⟨0, by omega, rfl, Lib.hid rfl, Lib.hid (fun j r hj => by omega)⟩
    case round =>
      obtain ⟨k, hk, rfl, hw, HI⟩ := hrel
      have hw := hw.out
      subst hw
      by_cases hlt : k < p.items.length
      rotate_left
      · obtain rfl : k = p.items.length := by omega
        go_wp2
        go_ret
        exact ⟨false, rfl, KB.out, fun _ => FIN.out HX.out HI.out⟩
      have g1 : decide ((k : Int) < (p.items.length : Int)) = true := decide_eq_true (by omega)
      have g1' : decide (k < p.items.length) = true := decide_eq_true hlt
      obtain ⟨x, hx⟩ : ∃ x, p.items[k]? = some x := ⟨_, List.getElem?_eq_getElem hlt⟩
      obtain ⟨_, _, e1, _, hcl⟩ := HP.out.items
      cases e1
      obtain ⟨lb, lo, pv, rfl, _, j0, j1, hpa⟩ := hcl k _ hx
      have hpl := hpa.len
      obtain ⟨pa, pc, rfl⟩ := hpa.shape
      have i1 := cell_chg KB.out (fun e => e) j1
      have HPA := Lib.hid hpa
      have HXX := Lib.hid hx
      have NX := Lib.hid (show (x.paths.length ≤ 20 ∧ ∀ l ∈ x.paths, l.length ≤ 60) → ∀ (j : Nat) y, j < k + 1 → p.items[j]? = some y → y.paths.length ≤ 20 ∧ ∀ l ∈ y.paths, l.length ≤ 60 from fun z j y hj hjy => by
        rcases Nat.lt_or_ge j k with q | q
        · exact HI.out j y q hjy
        · obtain rfl : j = k := by omega
          rw [HXX.out] at hjy; cases hjy
          exact z)
      clear hcl hx hpa j0 j1 HI HXX
      by_cases h1 : 20 < x.paths.length
      · have m3 : decide (20 < (x.paths.length : Int)) = true := decide_eq_true (by omega)
        have m3' : decide (20 < x.paths.length) = true := decide_eq_true h1
        go_wp2
        go_ret
        exact ⟨true, rfl, KB.out, fun e => by cases e⟩
      have m3 : decide (20 < (x.paths.length : Int)) = false := decide_eq_false (by omega)
      have m3' : decide (20 < x.paths.length) = false := decide_eq_false h1
      go_wp2
      go_loopw [36] (fun iv wz => ∃ q : Nat, q ≤ x.paths.length ∧ iv = .int .i64 q ∧ Hid (w1 = wz) ∧ Hid (∀ (j : Nat) l, j < q → x.paths[j]? = some l → l.length ≤ 60)) (fun iv _ => x.paths.length - (intOf iv).toNat)
      case atStart => exact ⟨0, by omega, rfl, Lib.hid rfl, Lib.hid (fun j r hj => by omega)⟩
      case round =>
        obtain ⟨q, hq, rfl, hw, HQ⟩ := hrel
        have hw := hw.out
        subst hw
        by_cases hql : q < x.paths.length
        rotate_left
        · obtain rfl : q = x.paths.length := by omega
          have NX2 := Lib.hid (NX.out ⟨by omega, fun l hl => by
            obtain ⟨j, hj⟩ := List.mem_iff_getElem?.1 hl
            exact HQ.out j l (List.getElem?_eq_some_iff.1 hj).1 hj⟩)
          go_wp2
          go_roundw
          case rel => exact ⟨k + 1, by omega, by go_num, Lib.hid (by first | trivial | rfl), NX2⟩
          case measure => simp [intOf]; omega
        have m1 : decide ((q : Int) < (x.paths.length : Int)) = true := decide_eq_true (by omega)
        have m1' : decide (q < x.paths.length) = true := decide_eq_true hql
        obtain ⟨l, hl⟩ : ∃ l, x.paths[q]? = some l := ⟨_, List.getElem?_eq_getElem hql⟩
        obtain ⟨_, _, e1, _, hcl⟩ := HPA.out
        cases e1
        obtain ⟨lb2, lo2, pv2, rfl, _, q0', hst⟩ := hcl q l hl
        have hll := hst.len
        obtain ⟨qa, qc, rfl⟩ := hst.shape
        have p0 := cell_chg KB.out (fun e => e) q0'
        have HLL := Lib.hid hl
        clear hcl hl hst q0'
        by_cases h3 : 60 < l.length
        · have m5 : decide (60 < (l.length : Int)) = true := decide_eq_true (by omega)
          have m5' : decide (60 < l.length) = true := decide_eq_true h3
          go_wp2
          go_ret
          exact ⟨true, rfl, KB.out, fun e => by cases e⟩
        have m5 : decide (60 < (l.length : Int)) = false := decide_eq_false (by omega)
        have m5' : decide (60 < l.length) = false := decide_eq_false h3
        go_wp2
        go_roundw
        case rel => exact ⟨q + 1, by omega, by go_num, Lib.hid (by first | trivial | rfl), Lib.hid (fun j y hj hjy => by
          rcases Nat.lt_or_ge j q with z | z
          · exact HQ.out j y z hjy
          · obtain rfl : j = q := by omega
            rw [HLL.out] at hjy; cases hjy
            omega)⟩
        case measure => simp [intOf]; omega
end Go.Proofs.YtjifdfhibkipnaaGreat
