/-
  The reference of layer 20: the device where it lies; burn, SetFuse, Read, Write, each by a contract over the plain model of the device.
-/
import Derived.Test.YtnmgnhhipgiggaaJRef2
namespace Go.Proofs.Ytnmgnhhipgiggaa
open Go.RowKit

structure RB where
  b : Nat
  bs : Nat
  bn : Nat
  bw : Nat
  n : Nat
  cs : Nat
  cn : Nat
  cw : Nat
def RB.S (R : RB) (k : Nat) : Prop := k = R.b ∨ k = R.bs ∨ k = R.bn ∨ k = R.bw
def rfuse (d : Dev) : Int := if d.on then d.fuse else -1
def RB.head (R : RB) (d : Dev) : List Value :=
  [.slice (some ⟨R.bs, 0, none⟩) R.n R.cs, .slice (some ⟨R.bn, 0, none⟩) R.n R.cn, .slice (some ⟨R.bw, 0, none⟩) R.n R.cw, .int .i64 (rfuse d), .bool d.dead]
def str (s : List UInt8) : Value := .string ⟨s.toArray⟩
def strs (l : List (List UInt8)) : List Value := l.map str
def RB.ptr (R : RB) : Value := .pointer (some ⟨R.b, 0, none⟩)
def Dev.Settled (d : Dev) : Prop := ∀ i, i < d.now.length → d.pend.getD i false = false → d.now.getD i [] = d.sure.getD i []

structure RDevAt (w : World) (R : RB) (d : Dev) : Prop where
  hb : w.heap[R.b]? = some (.cells (R.head d).toArray 48 (0, 0))
  hs : RowAt w R.bs 9 (strs d.sure)
  hn : RowAt w R.bn 9 (strs d.now)
  hw : RowAt w R.bw 4 (bools d.pend)
  ok : d.Ok R.n
  inv : d.Settled
  n1 : R.b ≠ R.bs
  n2 : R.b ≠ R.bn
  n3 : R.b ≠ R.bw
  n4 : R.bs ≠ R.bn
  n5 : R.bs ≠ R.bw
  n6 : R.bn ≠ R.bw

theorem RDevAt.chg {w w' : World} {R : RB} {d : Dev} {S : Nat → Prop} (h : RDevAt w R d) (hc : Chg S w w') (hd : ∀ k, R.S k → ¬ S k) : RDevAt w' R d :=
  ⟨hc.obj (hd _ (.inl rfl)) h.hb, h.hs.chg hc (hd _ (.inr (.inl rfl))), h.hn.chg hc (hd _ (.inr (.inr (.inl rfl)))), h.hw.chg hc (hd _ (.inr (.inr (.inr rfl)))), h.ok, h.inv, h.n1, h.n2, h.n3, h.n4, h.n5, h.n6⟩
theorem RDevAt.lt {w : World} {R : RB} {d : Dev} (h : RDevAt w R d) {k : Nat} (hk : R.S k) : k < w.heap.size := by
  rcases hk with rfl | rfl | rfl | rfl
  · exact lt_of_obj h.hb
  · exact h.hs.lt
  · exact h.hn.lt
  · exact h.hw.lt
theorem RDevAt.c0 {w : World} {R : RB} {d : Dev} (h : RDevAt w R d) : w.cell? ⟨R.b, 0, none⟩ = some (.slice (some ⟨R.bs, 0, none⟩) R.n R.cs) := cell_of h.hb rfl
theorem RDevAt.c1 {w : World} {R : RB} {d : Dev} (h : RDevAt w R d) : w.cell? ⟨R.b, 1, none⟩ = some (.slice (some ⟨R.bn, 0, none⟩) R.n R.cn) := cell_of h.hb rfl
theorem RDevAt.c2 {w : World} {R : RB} {d : Dev} (h : RDevAt w R d) : w.cell? ⟨R.b, 2, none⟩ = some (.slice (some ⟨R.bw, 0, none⟩) R.n R.cw) := cell_of h.hb rfl
theorem RDevAt.c3 {w : World} {R : RB} {d : Dev} (h : RDevAt w R d) : w.cell? ⟨R.b, 3, none⟩ = some (.int .i64 (rfuse d)) := cell_of h.hb rfl
theorem RDevAt.c4 {w : World} {R : RB} {d : Dev} (h : RDevAt w R d) : w.cell? ⟨R.b, 4, none⟩ = some (.bool d.dead) := cell_of h.hb rfl
/-- The head's block anew, the others as they were. -/
theorem RDevAt.head {w w' : World} {R : RB} {d d' : Dev} (h : RDevAt w R d) (hc : Chg (· = R.b) w w') (hb : w'.heap[R.b]? = some (.cells (R.head d').toArray 48 (0, 0)))
    (e1 : d'.now = d.now) (e2 : d'.sure = d.sure) (e3 : d'.pend = d.pend) (ok : d'.Ok R.n) : RDevAt w' R d' :=
  ⟨hb, by rw [e2]; exact h.hs.chg hc (fun e => h.n1 e.symm), by rw [e1]; exact h.hn.chg hc (fun e => h.n2 e.symm), by rw [e3]; exact h.hw.chg hc (fun e => h.n3 e.symm), ok, by have := h.inv; unfold Dev.Settled at *; rw [e1, e2, e3]; exact this, h.n1, h.n2, h.n3, h.n4, h.n5, h.n6⟩
theorem strs_get {l : List (List UInt8)} {k : Nat} (h : k < l.length) : (strs l)[k]? = some (str (l.getD k [])) := by
  unfold strs; rw [List.getElem?_map, List.getD_eq_getElem?_getD, List.getElem?_eq_getElem h]; rfl
theorem strs_set (l : List (List UInt8)) (k : Nat) (s : List UInt8) : (strs l).set k (str s) = strs (l.set k s) := by
  unfold strs; rw [List.map_set]
theorem bools_lset (l : List Bool) (k : Nat) (x : Bool) : (bools l).set k (.bool x) = bools (l.set k x) := by
  unfold bools; rw [List.map_set]

theorem bools_lget {l : List Bool} {k : Nat} (h : k < l.length) : (bools l)[k]? = some (.bool (l.getD k false)) := by
  unfold bools; rw [List.getElem?_map, List.getD_eq_getElem?_getD, List.getElem?_eq_getElem h]; rfl

theorem rburn_stop (w : World) (R : RB) (d : Dev) (h : RDevAt w R d) (hd : d.dead = false) (hs : d.stops = true) :
    Calls Try.prog 42 #[R.ptr] w fun e w' => e = .returned (.bool false) ∧ RDevAt w' R d.burnt ∧ Chg (· = R.b) w w' := by
  have c3 := h.c3
  have c4 := h.c4
  have f4 : w.frozen? ⟨R.b, 4, none⟩ = false := frozen_of h.hb
  have H := Lib.hid h; clear h
  have e : d.burnt = { d with dead := true } := by simp [Dev.burnt, hs]
  have HE := Lib.hid e; clear e
  unfold RB.ptr
  have ho : d.on = true ∧ d.fuse = 0 := by simpa [Dev.stops, hd] using hs
  have hz : rfuse d = 0 := by unfold rfuse; rw [if_pos ho.1, ho.2]
  rw [hz] at c3
  clear hs hd hz ho
  go_enter Try.func42, Try.ntmps42
  go_wp2
  go_ret
  refine ⟨rfl, ?_, chg_cell _ _ _ _⟩
  have h := H.out
  rw [HE.out]
  exact h.head (chg_cell _ _ _ _) (obj_setCell h.hb _) rfl rfl rfl ⟨h.ok.lo, h.ok.hi, h.ok.lnow, h.ok.lsure, h.ok.lpend, h.ok.wnow, h.ok.wsure, h.ok.fuse0, h.ok.fuse1⟩
theorem rburn_go (w : World) (R : RB) (d : Dev) (h : RDevAt w R d) (hs : d.stops = false) :
    Calls Try.prog 42 #[R.ptr] w fun e w' => e = .returned (.bool true) ∧ RDevAt w' R d.burnt ∧ Chg (· = R.b) w w' := by
  have c3 := h.c3
  have c4 := h.c4
  have f3 : w.frozen? ⟨R.b, 3, none⟩ = false := frozen_of h.hb
  have q0 := h.ok.fuse0
  have q1 := h.ok.fuse1
  have HOK := Lib.hid h.ok.burnt
  have H := Lib.hid h; clear h
  have e : d.burnt = { d with fuse := if d.on then d.fuse - 1 else d.fuse } := by simp [Dev.burnt, hs]
  have HE := Lib.hid e; clear e
  have hd : d.dead = false := by simp [Dev.stops] at hs; exact hs.1
  rw [hd] at c4
  unfold RB.ptr
  by_cases ho : d.on = true
  · have hz : (d.fuse == 0) = false := by simp [Dev.stops, hd, ho] at hs; simpa using hs
    have hz' : 1 ≤ d.fuse := by simp at hz; omega
    have hr : rfuse d = d.fuse := by unfold rfuse; rw [if_pos ho]
    rw [hr] at c3
    have HO := Lib.hid ho
    clear hs ho hd hr
    go_enter Try.func42, Try.ntmps42
    go_wp2
    go_ret
    refine ⟨rfl, ?_, chg_cell _ _ _ _⟩
    have h := H.out
    have hok := HOK.out
    have e2 : d.burnt = { d with fuse := d.fuse - 1 } := by rw [HE.out, if_pos HO.out]
    rw [e2] at hok ⊢
    refine h.head (chg_cell _ _ _ _) ((obj_setCell h.hb _).trans ?_) rfl rfl rfl hok
    simp [RB.head, rfuse, HO.out]
  · have ho' : d.on = false := by simpa using ho
    have hr : rfuse d = -1 := by unfold rfuse; rw [if_neg ho]
    rw [hr] at c3
    have fin : RDevAt w R d.burnt := by
      have h := H.out; rw [HE.out]; have : d = { d with fuse := if d.on then d.fuse - 1 else d.fuse } := by cases d; simp at ho'; subst ho'; rfl
      rw [← this]; exact h
    have FIN := Lib.hid fin; clear fin hd hs ho ho' hr
    go_enter Try.func42, Try.ntmps42
    go_wp2
    go_ret
    exact ⟨rfl, FIN.out, Chg.refl _ _⟩
theorem rsetFuse_any (w : World) (R : RB) (d : Dev) (n : Int) (h : RDevAt w R d) (hn : n ≤ 9223372036854775807) :
    Calls Try.prog 19 #[R.ptr, .int .i64 n] w fun e w' => e = .returned (.tuple #[]) ∧ RDevAt w' R (d.setFuse n) ∧ Chg (· = R.b) w w' := by
  have c4 := h.c4
  have c3 := h.c3
  have f3 : w.frozen? ⟨R.b, 3, none⟩ = false := frozen_of h.hb
  have H := Lib.hid h; clear h
  have HOK := Lib.hid (H.out.ok.setFuse n hn)
  unfold RB.ptr
  by_cases hd : d.dead = true
  · have e : d.setFuse n = d := by unfold Dev.setFuse; rw [if_pos hd]
    rw [e]
    rw [hd] at c4
    clear e hd
    go_enter Try.func19, Try.ntmps19
    go_wp2
    go_end0
    exact ⟨rfl, H.out, Chg.refl _ _⟩
  · have e : d.setFuse n = { d with fuse := max n 0, on := decide (0 ≤ n) } := by unfold Dev.setFuse; rw [if_neg hd]
    have E := Lib.hid e
    have hd : d.dead = false := by simpa using hd
    have hdd : (d.setFuse n).dead = d.dead := by rw [e]
    have HDD := Lib.hid hdd
    rw [hd] at c4
    clear e hd hdd
    by_cases h0 : n < 0
    · have rf : rfuse (d.setFuse n) = -1 := by rw [E.out]; unfold rfuse; rw [if_neg (by simp; omega)]
      have RF := Lib.hid rf
      clear rf
      generalize d.setFuse n = d' at *
      go_enter Try.func19, Try.ntmps19
      go_wp2
      go_end0
      have q := (chg_cell w R.b 3 (.int .i64 n)).trans (chg_cell _ R.b 3 (.int .i64 (-1)))
      refine ⟨rfl, H.out.head q ((obj_setCell (obj_setCell H.out.hb _) _).trans ?_) (by rw [E.out]) (by rw [E.out]) (by rw [E.out]) HOK.out, q⟩
      unfold RB.head; rw [RF.out, HDD.out]; rfl
    · have rf : rfuse (d.setFuse n) = n := by rw [E.out]; unfold rfuse; rw [if_pos (by simp; omega)]; show max n 0 = n; omega
      have RF := Lib.hid rf
      clear rf
      generalize d.setFuse n = d' at *
      go_enter Try.func19, Try.ntmps19
      go_wp2
      go_end0
      have q := chg_cell w R.b 3 (.int .i64 n)
      refine ⟨rfl, H.out.head q ((obj_setCell H.out.hb _).trans ?_) (by rw [E.out]) (by rw [E.out]) (by rw [E.out]) HOK.out, q⟩
      unfold RB.head; rw [RF.out, HDD.out]; rfl
theorem rread_any (w : World) (R : RB) (d : Dev) (i : Int) (h : RDevAt w R d) :
    Calls Try.prog 28 #[R.ptr, .int .i64 i] w fun e w' => e = .returned (str (d.read i)) ∧ w = w' := by
  have c1 := h.c1
  have n65 := h.ok.hi
  have ln := h.ok.lnow
  unfold RB.ptr
  by_cases h0 : i < 0
  · have e : d.read i = [] := by unfold Dev.read; rw [if_pos (.inl h0)]
    rw [e]
    clear h ln e
    go_enter Try.func28, Try.ntmps28
    go_wp2
    go_ret
    exact ⟨rfl, rfl⟩
  · obtain ⟨k, rfl⟩ := Int.eq_ofNat_of_zero_le (show 0 ≤ i by omega)
    by_cases h1 : k < R.n
    · have e : d.read k = d.now.getD k [] := by unfold Dev.read; rw [if_neg (by omega)]; rfl
      have cc := h.hn.cell (strs_get (l := d.now) (k := k) (by omega))
      rw [e]
      unfold str at cc ⊢
      generalize d.now.getD k [] = x at *
      clear h ln e h0
      go_enter Try.func28, Try.ntmps28
      go_wp2
      go_ret
      exact ⟨rfl, rfl⟩
    · have e : d.read k = [] := by unfold Dev.read; rw [if_pos (by omega)]
      rw [e]
      clear h ln e
      go_enter Try.func28, Try.ntmps28
      go_wp2
      go_ret
      exact ⟨rfl, rfl⟩
end Go.Proofs.Ytnmgnhhipgiggaa
