/-
  The device of package journal: its functions, each by a contract over the plain model.
-/
import Derived.Test.YtnmgnhhipgiggaaBase
import Derived.Test.YtnmgnhhipgiggaaJModel
namespace Go.Proofs.Ytnmgnhhipgiggaa
open Go.RowKit

structure DB where
  b : Nat
  bn : Nat
  bs : Nat
  bp : Nat
  n : Nat
def DB.S (B : DB) (k : Nat) : Prop := k = B.b ∨ k = B.bn ∨ k = B.bs ∨ k = B.bp
def DB.head (B : DB) (d : Dev) : List Value :=
  [.slice (some ⟨B.bn, 0, none⟩) B.n B.n, .slice (some ⟨B.bs, 0, none⟩) B.n B.n, .slice (some ⟨B.bp, 0, none⟩) B.n B.n, .int .i64 d.fuse, .bool d.on, .bool d.dead]
def secs (l : List (List UInt8)) : List Value := bcells l.flatten
def bools (l : List Bool) : List Value := l.map .bool
def DB.ptr (B : DB) : Value := .pointer (some ⟨B.b, 0, none⟩)

structure DevAt (w : World) (B : DB) (d : Dev) : Prop where
  hb : w.heap[B.b]? = some (.cells (B.head d).toArray 62 (0, 0))
  hn : w.heap[B.bn]? = some (.cells (secs d.now).toArray 71 (0, 0))
  hs : w.heap[B.bs]? = some (.cells (secs d.sure).toArray 71 (0, 0))
  hp : w.heap[B.bp]? = some (.cells (bools d.pend).toArray 4 (0, 0))
  ok : d.Ok B.n
  n1 : B.b ≠ B.bn
  n2 : B.b ≠ B.bs
  n3 : B.b ≠ B.bp
  n4 : B.bn ≠ B.bs
  n5 : B.bn ≠ B.bp
  n6 : B.bs ≠ B.bp

theorem DevAt.chg {w w' : World} {B : DB} {d : Dev} {S : Nat → Prop} (h : DevAt w B d) (hc : Chg S w w') (hd : ∀ k, B.S k → ¬ S k) : DevAt w' B d :=
  ⟨hc.obj (hd _ (.inl rfl)) h.hb, hc.obj (hd _ (.inr (.inl rfl))) h.hn, hc.obj (hd _ (.inr (.inr (.inl rfl)))) h.hs, hc.obj (hd _ (.inr (.inr (.inr rfl)))) h.hp, h.ok, h.n1, h.n2, h.n3, h.n4, h.n5, h.n6⟩
theorem DevAt.c0 {w : World} {B : DB} {d : Dev} (h : DevAt w B d) : w.cell? ⟨B.b, 0, none⟩ = some (.slice (some ⟨B.bn, 0, none⟩) B.n B.n) := cell_of h.hb rfl
theorem DevAt.c1 {w : World} {B : DB} {d : Dev} (h : DevAt w B d) : w.cell? ⟨B.b, 1, none⟩ = some (.slice (some ⟨B.bs, 0, none⟩) B.n B.n) := cell_of h.hb rfl
theorem DevAt.c2 {w : World} {B : DB} {d : Dev} (h : DevAt w B d) : w.cell? ⟨B.b, 2, none⟩ = some (.slice (some ⟨B.bp, 0, none⟩) B.n B.n) := cell_of h.hb rfl
theorem DevAt.c3 {w : World} {B : DB} {d : Dev} (h : DevAt w B d) : w.cell? ⟨B.b, 3, none⟩ = some (.int .i64 d.fuse) := cell_of h.hb rfl
theorem DevAt.c4 {w : World} {B : DB} {d : Dev} (h : DevAt w B d) : w.cell? ⟨B.b, 4, none⟩ = some (.bool d.on) := cell_of h.hb rfl
theorem DevAt.c5 {w : World} {B : DB} {d : Dev} (h : DevAt w B d) : w.cell? ⟨B.b, 5, none⟩ = some (.bool d.dead) := cell_of h.hb rfl
/-- The head's block anew, the others as they were. -/
theorem DevAt.head {w w' : World} {B : DB} {d d' : Dev} (h : DevAt w B d) (hc : Chg (· = B.b) w w') (hb : w'.heap[B.b]? = some (.cells (B.head d').toArray 62 (0, 0)))
    (e1 : d'.now = d.now) (e2 : d'.sure = d.sure) (e3 : d'.pend = d.pend) (ok : d'.Ok B.n) : DevAt w' B d' :=
  ⟨hb, by rw [e1]; exact hc.obj (fun e => h.n1 e.symm) h.hn, by rw [e2]; exact hc.obj (fun e => h.n2 e.symm) h.hs, by rw [e3]; exact hc.obj (fun e => h.n3 e.symm) h.hp, ok, h.n1, h.n2, h.n3, h.n4, h.n5, h.n6⟩

theorem has_yes (b o : Nat) (i : Int) (a : Option Addr) (n c : Nat) (w : World)
    (h0 : w.cell? ⟨b, o, none⟩ = some (.slice a n c)) (h1 : 0 ≤ i) (h2 : i < n) :
    Calls Try.prog 34 #[.pointer (some ⟨b, o, none⟩), .int .i64 i] w fun e w' => e = .returned (.bool true) ∧ w = w' := by
  go_enter Try.func34, Try.ntmps34
  go_wp2
  go_ret
  exact ⟨rfl, rfl⟩
theorem has_no (b o : Nat) (i : Int) (a : Option Addr) (n c : Nat) (w : World)
    (h0 : w.cell? ⟨b, o, none⟩ = some (.slice a n c)) (h1 : i < 0 ∨ n ≤ i) :
    Calls Try.prog 34 #[.pointer (some ⟨b, o, none⟩), .int .i64 i] w fun e w' => e = .returned (.bool false) ∧ w = w' := by
  by_cases h : i < 0
  · have hd : decide (0 ≤ i) = false := by simp; omega
    clear h1
    go_enter Try.func34, Try.ntmps34
    go_wp2
    go_ret
    exact ⟨rfl, rfl⟩
  · have hd : decide (i < n) = false := by simp; omega
    have hd2 : 0 ≤ i := by omega
    clear h1 h
    go_enter Try.func34, Try.ntmps34
    go_wp2
    go_ret
    exact ⟨rfl, rfl⟩

theorem burn_stop (w : World) (B : DB) (d : Dev) (h : DevAt w B d) (hs : d.stops = true) :
    Calls Try.prog 41 #[B.ptr] w fun e w' => e = .returned (.int .i64 20) ∧ DevAt w' B d.burnt ∧ Chg (· = B.b) w w' := by
  have c3 := h.c3
  have c4 := h.c4
  have c5 := h.c5
  have f5 : w.frozen? ⟨B.b, 5, none⟩ = false := frozen_of h.hb
  have H := Lib.hid h; clear h
  have e : d.burnt = { d with dead := true } := by simp [Dev.burnt, hs]
  have HE := Lib.hid e; clear e
  unfold DB.ptr
  by_cases hx : d.on = true ∧ d.fuse = 0
  · obtain ⟨ho, hz⟩ := hx
    rw [ho] at c4
    rw [hz] at c3
    clear hs
    go_enter Try.func41, Try.ntmps41
    go_wp2
    go_ret
    refine ⟨rfl, ?_, chg_cell _ _ _ _⟩
    have h := H.out
    rw [HE.out]
    exact h.head (chg_cell _ _ _ _) (obj_setCell h.hb _) rfl rfl rfl ⟨h.ok.lo, h.ok.hi, h.ok.lnow, h.ok.lsure, h.ok.lpend, h.ok.wnow, h.ok.wsure, h.ok.fuse0, h.ok.fuse1⟩
  · have hd : d.dead = true := by
      simp [Dev.stops] at hs; rcases hs with hs | hs
      · exact hs
      · exact absurd hs hx
    rw [hd] at c5
    clear hs
    have fin : DevAt w B d.burnt := by
      have h := H.out; rw [HE.out]; have : d = { d with dead := true } := by cases d; simp at hd; subst hd; rfl
      rw [← this]; exact h
    have FIN := Lib.hid fin; clear fin hd
    by_cases ho : d.on = true
    · have hz : (d.fuse == 0) = false := by simp; exact fun e => hx ⟨ho, e⟩
      rw [ho] at c4
      clear hx ho
      go_enter Try.func41, Try.ntmps41
      go_wp2
      go_ret
      exact ⟨rfl, FIN.out, Chg.refl _ _⟩
    · have ho' : d.on = false := by simpa using ho
      rw [ho'] at c4
      clear hx ho ho'
      go_enter Try.func41, Try.ntmps41
      go_wp2
      go_ret
      exact ⟨rfl, FIN.out, Chg.refl _ _⟩

theorem burn_go (w : World) (B : DB) (d : Dev) (h : DevAt w B d) (hs : d.stops = false) :
    Calls Try.prog 41 #[B.ptr] w fun e w' => e = .returned (.int .i64 0) ∧ DevAt w' B d.burnt ∧ Chg (· = B.b) w w' := by
  have c3 := h.c3
  have c4 := h.c4
  have c5 := h.c5
  have f3 : w.frozen? ⟨B.b, 3, none⟩ = false := frozen_of h.hb
  have q0 := h.ok.fuse0
  have q1 := h.ok.fuse1
  have HOK := Lib.hid h.ok.burnt
  have H := Lib.hid h; clear h
  have e : d.burnt = { d with fuse := if d.on then d.fuse - 1 else d.fuse } := by simp [Dev.burnt, hs]
  have HE := Lib.hid e; clear e
  have hd : d.dead = false := by simp [Dev.stops] at hs; exact hs.1
  rw [hd] at c5
  unfold DB.ptr
  by_cases ho : d.on = true
  · have hz : (d.fuse == 0) = false := by simp [Dev.stops, hd, ho] at hs; simpa using hs
    have hz' : 1 ≤ d.fuse := by simp at hz; omega
    rw [ho] at c4
    have HO := Lib.hid ho
    clear hs ho hd
    go_enter Try.func41, Try.ntmps41
    go_wp2
    go_ret
    refine ⟨rfl, ?_, chg_cell _ _ _ _⟩
    have h := H.out
    have hok := HOK.out
    have e2 : d.burnt = { d with fuse := d.fuse - 1 } := by rw [HE.out, if_pos HO.out]
    rw [e2] at hok ⊢
    exact h.head (chg_cell _ _ _ _) (obj_setCell h.hb _) rfl rfl rfl hok
  · have ho' : d.on = false := by simpa using ho
    rw [ho'] at c4
    have fin : DevAt w B d.burnt := by
      have h := H.out; rw [HE.out]; have : d = { d with fuse := if d.on then d.fuse - 1 else d.fuse } := by cases d; simp at ho'; subst ho'; rfl
      rw [← this]; exact h
    have FIN := Lib.hid fin; clear fin hd hs ho ho'
    go_enter Try.func41, Try.ntmps41
    go_wp2
    go_ret
    exact ⟨rfl, FIN.out, Chg.refl _ _⟩

end Go.Proofs.Ytnmgnhhipgiggaa
