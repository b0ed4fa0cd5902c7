/-
  Package journal: sectors, first, Room, Record, Number, head.
-/
import Derived.Test.YtnmgnhhipgiggaaJDev5
namespace Go.Proofs.Ytnmgnhhipgiggaa
open Go.RowKit

def jcells (B : DB) (j : Jr) : List Value := [B.ptr, .int .i64 j.number, .int .i64 j.half, .string j.text]
structure JAt (w : World) (B : DB) (b : Nat) (j : Jr) : Prop where
  hb : w.heap[b]? = some (.cells (jcells B j).toArray 68 (0, 0))
def jptr (b : Nat) : Value := .pointer (some ⟨b, 0, none⟩)
theorem JAt.c0 {w : World} {B : DB} {b : Nat} {j : Jr} (h : JAt w B b j) : w.cell? ⟨b, 0, none⟩ = some (.pointer (some ⟨B.b, 0, none⟩)) := cell_of h.hb rfl
theorem JAt.c1 {w : World} {B : DB} {b : Nat} {j : Jr} (h : JAt w B b j) : w.cell? ⟨b, 1, none⟩ = some (.int .i64 j.number) := cell_of h.hb rfl
theorem JAt.c2 {w : World} {B : DB} {b : Nat} {j : Jr} (h : JAt w B b j) : w.cell? ⟨b, 2, none⟩ = some (.int .i64 j.half) := cell_of h.hb rfl
theorem JAt.c3 {w : World} {B : DB} {b : Nat} {j : Jr} (h : JAt w B b j) : w.cell? ⟨b, 3, none⟩ = some (.string j.text) := cell_of h.hb rfl
theorem JAt.chg {S : Nat → Prop} {w w' : World} {B : DB} {b : Nat} {j : Jr} (h : JAt w B b j) (hc : Chg S w w') (hs : ¬ S b) : JAt w' B b j := ⟨hc.obj hs h.hb⟩

theorem sectors_at (w : World) (b : Nat) (B : DB) (h0 : w.cell? ⟨b, 0, none⟩ = some (.pointer (some ⟨B.b, 0, none⟩))) (h1 : w.cell? ⟨B.b, 0, none⟩ = some (.slice (some ⟨B.bn, 0, none⟩) B.n B.n)) (h3 : 3 ≤ B.n) (h65 : B.n ≤ 65) :
    Calls Try.prog 35 #[jptr b] w fun e w' => e = .returned (.int .i64 ((B.n - 1) / 2 : Nat)) ∧ w = w' := by
  unfold jptr
  go_enter Try.func35, Try.ntmps35
  go_wp2
  go_ret
  refine ⟨?_, rfl⟩
  show Ending.returned (.int .i64 (((B.n : Int) - 1) / 2)) = _
  congr 2; omega
theorem room_at (w : World) (b : Nat) (B : DB) (h0 : w.cell? ⟨b, 0, none⟩ = some (.pointer (some ⟨B.b, 0, none⟩))) (h1 : w.cell? ⟨B.b, 0, none⟩ = some (.slice (some ⟨B.bn, 0, none⟩) B.n B.n)) (h3 : 3 ≤ B.n) (h65 : B.n ≤ 65) :
    Calls Try.prog 31 #[jptr b] w fun e w' => e = .returned (.int .i64 ((B.n - 1) / 2 * 32 : Nat)) ∧ w = w' := by
  have H := Lib.hid (sectors_at w b B h0 h1 h3 h65)
  clear h0 h1
  unfold jptr
  have hle : (B.n - 1) / 2 ≤ 32 := by omega
  generalize hs : (B.n - 1) / 2 = s at *
  go_enter Try.func31, Try.ntmps31
  go_wp2_with fail
  refine (H.out).mono ?_
  rintro e w' ⟨rfl, rfl⟩
  go_wp2
  go_ret
  refine ⟨by go_num, rfl⟩
theorem first_at (w : World) (b : Nat) (B : DB) (f : Int) (h0 : w.cell? ⟨b, 0, none⟩ = some (.pointer (some ⟨B.b, 0, none⟩))) (h1 : w.cell? ⟨B.b, 0, none⟩ = some (.slice (some ⟨B.bn, 0, none⟩) B.n B.n)) (h3 : 3 ≤ B.n) (h65 : B.n ≤ 65) (hf : 0 ≤ f) (hf' : f ≤ 1) :
    Calls Try.prog 36 #[jptr b, .int .i64 f] w fun e w' => e = .returned (.int .i64 (1 + f * ((B.n - 1) / 2 : Nat))) ∧ w = w' := by
  have H := Lib.hid (sectors_at w b B h0 h1 h3 h65)
  clear h0 h1
  unfold jptr
  have hle : (B.n - 1) / 2 ≤ 32 := by omega
  generalize hs : (B.n - 1) / 2 = s at *
  have hm : 0 ≤ f * (s : Int) ∧ f * (s : Int) ≤ 32 := by
    rcases (by omega : f = 0 ∨ f = 1) with rfl | rfl <;> omega
  obtain ⟨hm1, hm2⟩ := hm
  go_enter Try.func36, Try.ntmps36
  go_wp2_with fail
  refine (H.out).mono ?_
  rintro e w' ⟨rfl, rfl⟩
  go_wp2
  go_ret
  exact ⟨rfl, rfl⟩
theorem record_at (w : World) (B : DB) (b : Nat) (j : Jr) (h : JAt w B b j) :
    Calls Try.prog 29 #[jptr b] w fun e w' => e = .returned (.string j.text) ∧ w = w' := by
  have c3 := h.c3
  clear h
  unfold jptr
  go_enter Try.func29, Try.ntmps29
  go_wp2
  go_ret
  exact ⟨rfl, rfl⟩
theorem number_at (w : World) (B : DB) (b : Nat) (j : Jr) (h : JAt w B b j) :
    Calls Try.prog 30 #[jptr b] w fun e w' => e = .returned (.int .i64 j.number) ∧ w = w' := by
  have c1 := h.c1
  clear h
  unfold jptr
  go_enter Try.func30, Try.ntmps30
  go_wp2
  go_ret
  exact ⟨rfl, rfl⟩

end Go.Proofs.Ytnmgnhhipgiggaa
