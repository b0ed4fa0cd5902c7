/-
  Package match: First, Len.
-/
import Derived.Test.YtiidagdapckgjaaMAll
namespace Go.Proofs.Ytiidagdapckgjaa
open Go.RowKit Go.Maps

def firstV (l : List (Nat × Nat)) : Value := match l with
  | [] => .tuple #[.agg #[.int .i64 0, .int .i64 0], .bool false]
  | h :: _ => .tuple #[.agg #[.int .i64 (h.1 : Int), .int .i64 (h.2 : Int)], .bool true]
theorem hitsTo_prefix (l : List (List UInt8)) (w : List UInt8) (k : Nat) : ∀ d, hitsTo l w k <+: hitsTo l w (k + d)
  | 0 => List.prefix_refl _
  | d + 1 => by
    rw [show k + (d + 1) = k + d + 1 from by omega, hitsTo_succ]
    exact (hitsTo_prefix l w k d).trans (List.prefix_append _ _)
theorem firstV_found {l : List (List UInt8)} {w : List UInt8} {k n x : Nat} {r : List Nat} (hk : k < n) (h0 : hitsTo l w k = []) (hh : hereL l w k = x :: r) : firstV (hitsTo l w n) = .tuple #[.agg #[.int .i64 (k : Int), .int .i64 (x : Int)], .bool true] := by
  have h1 : hitsTo l w (k + 1) = (k, x) :: r.map fun i => (k, i) := by rw [hitsTo_succ, h0, hh]; rfl
  have := hitsTo_prefix l w (k + 1) (n - (k + 1))
  rw [show k + 1 + (n - (k + 1)) = n from by omega, h1] at this
  obtain ⟨t, ht⟩ := this
  rw [← ht]; rfl
theorem mlen_any (w : World) (base : Nat) (B : MB) (cs : List (Value × Value)) (ps : List (List Nat)) (wh : List Nat → List Nat) (h : MachAt w base B cs ps wh) :
    Calls Try.prog 14 #[.pointer (some ⟨B.b, 0, none⟩)] w fun e w' => e = .returned (.int .i64 (B.nw : Int)) ∧ w = w' := by
  have c1 : w.cell? ⟨B.b, 1, none⟩ = some (.int .i64 (B.nw : Int)) := cell_of h.hb rfl
  clear h
  go_enter Try.func14, Try.ntmps14
  go_wp2
  go_ret
  exact ⟨rfl, rfl⟩
set_option maxHeartbeats 2000000 in
theorem first_any (w : World) (base : Nat) (B : MB) (cs : List (Value × Value)) (L : List (List UInt8)) (s : ByteArray) (h : MachAt w base B cs (pathsTo L L.length) (whichTo L L.length)) (hs : s.size ≤ 400) (hL : L.length ≤ 110) :
    Calls Try.prog 13 #[.pointer (some ⟨B.b, 0, none⟩), .string s] w fun e w' => e = .returned (firstV (hits L s.data.toList)) ∧ Chg (fun _ => False) w w' := by
  have hsl := size_list s
  have LEN := Lib.hid (fun w => wlen_any w s (by unfold maxLen; omega))
  have hn2 : alen s.data.toList ≤ 200 := by unfold alen; omega
  have HERE := Lib.hid (fun w1 (h1 : MachAt w1 base B cs (pathsTo L L.length) (whichTo L L.length)) place hp => here_any w1 base B cs L s place h1 hs hp hL)
  have HS := Lib.hid (fun k => hitsTo_succ L s.data.toList k)
  have FF := Lib.hid (fun k n x r hk h0 hh => firstV_found (l := L) (w := s.data.toList) (k := k) (n := n) (x := x) (r := r) hk h0 hh)
  have H := Lib.hid h
  clear hs hsl h
  unfold hits
  generalize alen s.data.toList = n at *
  go_enter Try.func13, Try.ntmps13
  go_wp2_with fail
  refine (LEN.out _).mono ?_
  rintro e w' ⟨rfl, rfl⟩
  go_wp2
  go_loopw [10] (fun iv wr => ∃ k : Nat, k ≤ n ∧ iv = .int .i64 k ∧ Hid (hitsTo L s.data.toList k = []) ∧ wr.heap[w.heap.size]? = some (.cells #[.int .i64 0, .int .i64 0] 32 (0, 0)) ∧ Chg (fun _ => False) w wr) (fun iv _ => n - (intOf iv).toNat)
  case atStart => exact ⟨0, by omega, rfl, Lib.hid rfl, obj_alloc_new _ _, chg_alloc _ _ _⟩
  case round =>
    obtain ⟨k, hk, rfl, HZ, hb, hc⟩ := hrel
    have HB := Lib.hid hb
    have HC := Lib.hid hc
    clear hb hc
    by_cases hlt : k < n
    · have HE1 := Lib.hid (HERE.out wr (H.out.chg HC.out) k hlt)
      have FK := Lib.hid (fun x r hh => FF.out k n x r hlt HZ.out hh)
      have HSK := Lib.hid (HS.out k)
      generalize hereL L s.data.toList k = R at *
      go_wp2_with fail
      refine (HE1.out).mono ?_
      rintro e w1 ⟨v1, rfl, o1, c1⟩
      obtain ⟨ra, rc, rfl, hrl, hcl⟩ := own_ints o1
      have B1 := Lib.hid (c1.obj (fun e => e) HB.out)
      have C1 := Lib.hid (HC.out.trans c1)
      unfold maxLen at hrl
      clear o1 c1 HB HC
      cases R with
      | nil =>
        have HZ1 := Lib.hid (show hitsTo L s.data.toList (k + 1) = [] by rw [HSK.out, HZ.out]; rfl)
        clear hcl
        go_wp2
        go_roundw
        case rel => exact ⟨k + 1, by omega, by go_num, HZ1, B1.out, C1.out⟩
        case measure => simp [intOf]; omega
      | cons x r =>
        obtain ⟨g, rfl, _, cx⟩ := hcl 0 x rfl
        have FX := Lib.hid (FK.out x r rfl)
        have d0 : w1.cell? ⟨w.heap.size, 0, none⟩ = some (.int .i64 0) := cell_of B1.out rfl
        have d1 : w1.cell? ⟨w.heap.size, 1, none⟩ = some (.int .i64 0) := cell_of B1.out rfl
        have f0 : w1.frozen? ⟨w.heap.size, 0, none⟩ = false := frozen_of B1.out
        have f1 : w1.frozen? ⟨w.heap.size, 1, none⟩ = false := frozen_of B1.out
        have hrp : 0 < (x :: r).length := by simp
        clear hcl FK
        generalize (x :: r).length = rl at *
        have hrd : decide (0 < (rl : Int)) = true := by rw [decide_eq_true_eq]; omega
        go_wp2
        have q := (C1.out.setCell (S := fun _ => False) (p := ⟨w.heap.size, 0, none⟩) (fun e => absurd e (Nat.lt_irrefl _)) (.int .i64 (k : Int))).setCell (p := ⟨w.heap.size, 1, none⟩) (fun e => absurd e (Nat.lt_irrefl _)) (.int .i64 (x : Int))
        refine bodyPost_ret (v := .tuple #[.agg #[.int .i64 (k : Int), .int .i64 (x : Int)], .bool true]) (by simp [results, Try.results13, go_sem, d0, d1]) rfl ⟨by rw [FX.out], q⟩
    · obtain rfl : k = n := by omega
      have d0 : wr.cell? ⟨w.heap.size, 0, none⟩ = some (.int .i64 0) := cell_of HB.out rfl
      have d1 : wr.cell? ⟨w.heap.size, 1, none⟩ = some (.int .i64 0) := cell_of HB.out rfl
      have f0 : wr.frozen? ⟨w.heap.size, 0, none⟩ = false := frozen_of HB.out
      have f1 : wr.frozen? ⟨w.heap.size, 1, none⟩ = false := frozen_of HB.out
      go_wp2
      have q := (HC.out.setCell (S := fun _ => False) (p := ⟨w.heap.size, 0, none⟩) (fun e => absurd e (Nat.lt_irrefl _)) (.int .i64 0)).setCell (p := ⟨w.heap.size, 1, none⟩) (fun e => absurd e (Nat.lt_irrefl _)) (.int .i64 0)
      refine bodyPost_ret (v := .tuple #[.agg #[.int .i64 0, .int .i64 0], .bool false]) (by simp [results, Try.results13, go_sem, d0, d1]) rfl ⟨by rw [HZ.out]; rfl, q⟩
end Go.Proofs.Ytiidagdapckgjaa
