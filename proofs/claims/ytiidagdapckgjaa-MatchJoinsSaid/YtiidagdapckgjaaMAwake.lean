/-
  Layer 10: awake.
-/
import Derived.Test.YtiidagdapckgjaaMOf
namespace Go.Proofs.Ytiidagdapckgjaa
open Go.RowKit Go.Maps

def wa : ByteArray := ⟨#[32, 1]⟩
def wb : ByteArray := ⟨#[32, 2]⟩
def awl : List ByteArray := [wa ++ wb, wb, wa ++ wb, wa ++ wa ++ wa]
theorem aw_all : hits (lists awl) (wa ++ wb ++ wa ++ wb).data.toList = [(0, 0), (0, 2), (1, 1), (2, 0), (2, 2), (3, 1)] := by decide +kernel
theorem aw_f1 : hits (lists awl) (wb ++ wa ++ wb).data.toList = [(0, 1), (1, 0), (1, 2), (2, 1)] := by decide +kernel
theorem aw_f2 : hits (lists awl) wa.data.toList = [] := by decide +kernel
theorem aw_sz : ∀ x ∈ awl, x.size ≤ 400 := by decide +kernel
theorem aw_s1 : (wa ++ wb ++ wa ++ wb).size ≤ 400 := by decide +kernel
theorem aw_s2 : (wb ++ wa ++ wb).size ≤ 400 := by decide +kernel
theorem aw_s3 : wa.size ≤ 400 := by decide +kernel
def awObj : Obj := .cells #[.string (wa ++ wb), .string wb, .string (wa ++ wb), .string (wa ++ wa ++ wa)] 23
theorem aw_words (w : World) : WordsAt (w.alloc awObj) (.slice (some ⟨w.heap.size, 0, none⟩) 4 4) (· < (w.alloc awObj).heap.size) awl := by
  refine ⟨_, 4, rfl, by unfold maxLen; decide +kernel, fun j x hj => ⟨w.heap.size, 0, rfl, by simp, ?_, ?_⟩⟩
  · rw [Nat.zero_add]
    refine cell_of (obj_alloc_new w awObj) ?_
    have hjl : j < 4 := (List.getElem?_eq_some_iff.1 hj).1
    rcases (by omega : j = 0 ∨ j = 1 ∨ j = 2 ∨ j = 3) with rfl | rfl | rfl | rfl <;> (simp [awl] at hj; subst hj; rfl)
  · have := aw_sz x (List.mem_of_getElem? hj); unfold maxLen; omega
set_option maxHeartbeats 4000000 in
theorem awake_any (w : World) : Calls Try.prog 8 #[] w fun e w' => e = .returned (.bool true) ∧ Chg (fun _ => False) w w' := by
  have E1 := Lib.hid (show (⟨(ofAtoms [8193]).toArray⟩ : ByteArray) = ⟨#[32, 1]⟩ from rfl)
  have E2 := Lib.hid (show (⟨(ofAtoms [8194]).toArray⟩ : ByteArray) = ⟨#[32, 2]⟩ from rfl)
  have e1 : (w.alloc (.cells #[.int .u16 8193] 44)).cell? ⟨w.heap.size, 0, none⟩ = some (.int .u16 8193) := cell_of (obj_alloc_new _ _) rfl
  have OF1 := Lib.hid (rof_any (w.alloc (.cells #[.int .u16 8193] 44)) (some ⟨w.heap.size, 0, none⟩) 1 [8193] (by simp) (by simp) (fun j x hj => by
    rcases j with _ | j
    · simp at hj; subst hj; exact ⟨by omega, _, _, rfl, e1⟩
    · simp at hj))
  rw [E1.out] at OF1
  clear e1
  go_enter Try.func8, Try.ntmps8
  go_wp2_with fail
  refine (OF1.out).mono ?_
  rintro e w1 ⟨rfl, k1⟩
  have K1 := Lib.hid ((chg_alloc (fun _ => False) w (.cells #[.int .u16 8193] 44)).trans k1)
  have e2 : (w1.alloc (.cells #[.int .u16 8194] 44)).cell? ⟨w1.heap.size, 0, none⟩ = some (.int .u16 8194) := cell_of (obj_alloc_new _ _) rfl
  have OF2 := Lib.hid (rof_any (w1.alloc (.cells #[.int .u16 8194] 44)) (some ⟨w1.heap.size, 0, none⟩) 1 [8194] (by simp) (by simp) (fun j x hj => by
    rcases j with _ | j
    · simp at hj; subst hj; exact ⟨by omega, _, _, rfl, e2⟩
    · simp at hj))
  rw [E2.out] at OF2
  clear e2 k1
  go_wp2_with fail
  refine (OF2.out).mono ?_
  rintro e w2 ⟨rfl, k2⟩
  have K2 := Lib.hid (K1.out.trans ((chg_alloc (fun _ => False) w1 (.cells #[.int .u16 8194] 44)).trans k2))
  clear k2 OF1 OF2 K1
  go_wp2_with fail
  have NEW := Lib.hid (new_any (w2.alloc awObj) _ awl (aw_words w2) (by decide) aw_sz)
  have K3 := Lib.hid (K2.out.alloc awObj)
  clear K2
  change Calls Try.prog 10 #[.slice (some ⟨w2.heap.size, 0, none⟩) 4 4] (w2.alloc awObj) _
  generalize w2.alloc awObj = w3 at *
  refine (NEW.out).mono ?_
  rintro e w4 ⟨B, cs, rfl, hnw, m4, k4⟩
  have M4 := Lib.hid m4
  have K4 := Lib.hid (K3.out.trans k4)
  have NW := Lib.hid hnw
  clear m4 k4 hnw NEW K3
  have ALL := Lib.hid (all_any w4 w3.heap.size B cs (lists awl) (wa ++ wb ++ wa ++ wb) M4.out aw_s1 (by decide))
  rw [aw_all] at ALL
  unfold wa wb at ALL
  go_wp2_with fail
  refine (ALL.out).mono ?_
  rintro e w5 ⟨v5, rfl, o5, k5⟩
  obtain ⟨la, cap, rfl, _, hcl⟩ := hitsAt_own o5
  obtain ⟨g1, o1, rfl, hg1, c10, c11⟩ := hcl 1 (0, 2) rfl
  obtain ⟨g2, o2, e2, hg2, c20, c21⟩ := hcl 5 (3, 1) rfl
  cases e2
  have K5 := Lib.hid (K4.out.trans k5)
  have M5 := Lib.hid (M4.out.chg k5)
  have F1 := Lib.hid (first_any w5 w3.heap.size B cs (lists awl) (wb ++ wa ++ wb) M5.out aw_s2 (by decide))
  rw [aw_f1] at F1
  unfold wa wb at F1
  change Hid (Calls _ _ _ _ fun e w' => e = .returned (.tuple #[.agg #[.int .i64 0, .int .i64 1], .bool true]) ∧ _) at F1
  clear hcl ALL M4 K4 k5 o5
  go_wp2_with fail
  refine (F1.out).mono ?_
  rintro e w6 ⟨rfl, k6⟩
  have q6 := k6.alloc (.cells #[.int .i64 0, .int .i64 1] 32)
  have K6 := Lib.hid (K5.out.trans q6)
  have M6 := Lib.hid (M5.out.chg q6)
  have d10 := cell_chg q6 (fun e => e) c10
  have d11 := cell_chg q6 (fun e => e) c11
  have d20 := cell_chg q6 (fun e => e) c20
  have d21 := cell_chg q6 (fun e => e) c21
  have b6 : (w6.alloc (.cells #[.int .i64 0, .int .i64 1] 32)).heap[w6.heap.size]? = some (.cells #[.int .i64 0, .int .i64 1] 32 (0, 0)) := obj_alloc_new _ _
  have F2 := Lib.hid (first_any (w6.alloc (.cells #[.int .i64 0, .int .i64 1] 32)) w3.heap.size B cs (lists awl) wa M6.out aw_s3 (by decide))
  rw [aw_f2] at F2
  unfold wa at F2
  change Hid (Calls _ _ _ _ fun e w' => e = .returned (.tuple #[.agg #[.int .i64 0, .int .i64 0], .bool false]) ∧ _) at F2
  clear c10 c11 c20 c21 F1 K5 M5 q6 k6
  go_wp2_with fail
  generalize w6.alloc (.cells #[.int .i64 0, .int .i64 1] 32) = w7 at *
  refine (F2.out).mono ?_
  rintro e w8 ⟨rfl, k8⟩
  have q8 := k8.alloc (.cells #[.int .i64 0, .int .i64 0] 32)
  have K8 := Lib.hid (K6.out.trans q8)
  have M8 := Lib.hid (M6.out.chg q8)
  have e10 := cell_chg q8 (fun e => e) d10
  have e11 := cell_chg q8 (fun e => e) d11
  have e20 := cell_chg q8 (fun e => e) d20
  have e21 := cell_chg q8 (fun e => e) d21
  have b8 := q8.obj (fun e => e) b6
  have f0 : (w8.alloc (.cells #[.int .i64 0, .int .i64 0] 32)).cell? ⟨w6.heap.size, 0, none⟩ = some (.int .i64 0) := cell_of b8 rfl
  have f1 : (w8.alloc (.cells #[.int .i64 0, .int .i64 0] 32)).cell? ⟨w6.heap.size, 1, none⟩ = some (.int .i64 1) := cell_of b8 rfl
  have ML := Lib.hid (mlen_any (w8.alloc (.cells #[.int .i64 0, .int .i64 0] 32)) w3.heap.size B cs _ _ M8.out)
  rw [NW.out] at ML
  change Hid (Calls _ _ _ _ fun e w' => e = .returned (.int .i64 4) ∧ _) at ML
  clear d10 d11 d20 d21 b6 b8 q8 k8 F2 K6 M6
  go_wp2_with fail
  refine (ML.out).mono ?_
  rintro e w' ⟨rfl, rfl⟩
  go_wp2
  go_ret
  exact ⟨rfl, K8.out⟩
end Go.Proofs.Ytiidagdapckgjaa
