/-
  QRRef: what else.
-/
import Derived.Test.YtjifdfhibkipnaaGreatRRefA
import Derived.Test.YtjifdfhibkipnaaGreatRTellR1
import Derived.Test.YtjifdfhibkipnaaGreatQCheck
namespace Go.Proofs.YtjifdfhibkipnaaGreat
open Go.RowKit Go.Maps
set_option maxHeartbeats 1000000 in
set_option maxRecDepth 100000 in
theorem rwalk_any (w : World) (v lv : Value) (R : List BRul) (L : List (Int × Int)) (s : ByteArray) (hv : RulesAt w v (· < w.heap.size) R) (h47 : Fit47 R) (hl : StepsAt w lv (· < w.heap.size) L) (hL : ∀ x ∈ L, -9223372036854775808 ≤ x.1 ∧ x.1 ≤ 9223372036854775807) (hmay : mayB s.data.toList = true) :
    Calls Tryz.prog 39 #[v, .string s, lv] w fun e w' => e = .returned (walkV (walkI (R.map brul) s.data.toList L)) ∧ Chg (fun _ => False) w w' := by
  have HV := Lib.hid hv
  have HL := Lib.hid hl
  have HLI := Lib.hid hL
  have H47 := Lib.hid h47
  obtain ⟨la, cap, rfl, hl0, _⟩ := hv
  obtain ⟨lb, lcap, rfl, hl1, _⟩ := hl
  have hs8 := may_size hmay
  have MAY := Lib.hid (rmay_any w s (by omega))
  rw [hmay] at MAY
  have HMAY := Lib.hid hmay
  clear hmay hL h47
  unfold maxLen at hl0 hl1
  go_enter Tryz.func39, Tryz.ntmps39
  go_wp2_with fail
  (with_reducible refine (MAY.out).mono ?_)
  rintro e w1 ⟨rfl, k1⟩
  have K1 := Lib.hid k1
  clear k1
  go_wp2
  go_loopw [1, 8] (fun sv iv wr => ∃ (u : ByteArray) (k : Nat), k ≤ L.length ∧ sv = .string u ∧ iv = .int .i64 k ∧ Hid (walkI (R.map brul) s.data.toList (L.take k) = some u.data.toList ∧ mayB u.data.toList = true ∧ Chg (fun _ => False) w wr)) (fun _ iv _ => L.length - (intOf iv).toNat)
  case atStart => exact ⟨s, 0, by omega, rfl, rfl, Lib.hid ⟨rfl, HMAY.out, K1.out⟩⟩
  case round =>
    obtain ⟨u, k, hk, rfl, rfl, HI⟩ := hrel
    have hu8 := may_size HI.out.2.1
    by_cases hlt : k < L.length
    · obtain ⟨⟨xa, xk⟩, hx⟩ : ∃ x, L[k]? = some x := ⟨_, List.getElem?_eq_getElem hlt⟩
      have hlr := HL.out.chg HI.out.2.2 (fun _ _ e => e)
      obtain ⟨lb', lcap', e1, _, hcl⟩ := hlr
      cases e1
      obtain ⟨gb, go, rfl, hgb, c0, c1⟩ := hcl k _ hx
      have USE := Lib.hid (ruse_any wr _ R u xa xk (rules_up HV.out HI.out.2.2) H47.out HI.out.2.1 (HLI.out _ (List.mem_of_getElem? hx)))
      have TK := Lib.hid (show ∀ o, stepI (R.map brul) u.data.toList (xa, xk) = o → walkI (R.map brul) s.data.toList (L.take (k + 1)) = o from fun o ho => by
        rw [List.take_add_one, hx, Option.toList_some, walkI_snoc, HI.out.1]; exact ho)
      have TN := Lib.hid (show stepI (R.map brul) u.data.toList (xa, xk) = none → walkI (R.map brul) s.data.toList L = none from fun ho => by
        have := walkI_none_append (R.map brul) (L.take (k + 1)) (L.drop (k + 1)) s.data.toList (TK.out _ ho)
        rwa [List.take_append_drop] at this)
      have KR := Lib.hid HI.out.2.2
      simp only at c0 c1
      clear hcl hx
      cases hst : stepI (R.map brul) u.data.toList (xa, xk) with
      | none =>
        have RES := Lib.hid (TN.out hst)
        rw [hst] at USE
        unfold useV at USE
        simp only at USE
        clear hst
        go_wp2_with fail
        (with_reducible refine (USE.out).mono ?_)
        rintro e w3 ⟨rfl, k3⟩
        go_wp2
        go_ret2
        exact ⟨by rw [RES.out]; rfl, KR.out.trans k3⟩
      | some uw =>
        have TKO := Lib.hid (TK.out _ hst)
        have SM := Lib.hid (stepI_may HI.out.2.1 hst)
        rw [hst] at USE
        unfold useV at USE
        simp only at USE
        clear hst
        go_wp2_with fail
        (with_reducible refine (USE.out).mono ?_)
        rintro e w3 ⟨rfl, k3⟩
        have K3 := Lib.hid (KR.out.trans k3)
        go_wp2
        go_roundw
        case rel => exact ⟨_, k + 1, by omega, rfl, by go_num, Lib.hid ⟨by rw [TKO.out, bar_list], by rw [bar_list]; exact SM.out.1, K3.out⟩⟩
        case measure => simp [intOf]; omega
    · obtain rfl : k = L.length := by omega
      have RES := Lib.hid (show walkI (R.map brul) s.data.toList L = some u.data.toList by have := HI.out.1; rwa [List.take_length] at this)
      go_wp2
      go_ret2
      exact ⟨by rw [RES.out]; unfold walkV; simp only; rw [bar_of]; rfl, HI.out.2.2⟩
theorem rwalk_form (w : World) (la lv : Option Addr) (n c m d : Nat) (s : ByteArray) (hs : s.size ≤ 140737488355328) (h : mayB s.data.toList = false) :
    Calls Tryz.prog 39 #[.slice la n c, .string s, .slice lv m d] w fun e w' => e = .returned (.tuple #[.string ⟨#[]⟩, .int .i64 2]) ∧ Chg (fun _ => False) w w' := by
  have MAY := Lib.hid (rmay_any w s hs)
  rw [h] at MAY
  clear h
  go_enter Tryz.func39, Tryz.ntmps39
  go_wp2_with fail
  (with_reducible refine (MAY.out).mono ?_)
  rintro e w' ⟨rfl, kc⟩
  go_wp2
  go_ret2
  exact ⟨rfl, kc⟩
section
variable {w : World} {v : Value} {R : List BRul} {s : ByteArray} {b : Int}
end
/-- What the reference's Walk tells, and what its Check makes of it. -/
theorem rwalk_leads (w : World) (v sv : Value) (R : List BRul) (l : BSteps) (x u : ByteArray) (hv : RulesAt w v (· < w.heap.size) R) (h47 : Fit47 R) (hl : StepsAt w sv (· < w.heap.size) l) (hf : StepsFit l) (hx : x.size ≤ 140737488355328) :
    Calls Tryz.prog 39 #[v, .string x, sv] w fun e w' => ∃ (s : ByteArray) (k : Int), e = .returned (.tuple #[.string s, .int .i64 k]) ∧ (leadsB R x u l = true ↔ k = 0 ∧ s = u) ∧ Chg (fun _ => False) w w' := by
  unfold leadsB
  cases hm : mayB x.data.toList with
  | false =>
    obtain ⟨la, cap, rfl, _, _⟩ := hv
    obtain ⟨ka, kc, rfl, _, _⟩ := hl
    exact (rwalk_form w la ka R.length cap l.length kc x hx hm).mono fun e w' ⟨he, hc⟩ => ⟨_, _, he, ⟨fun q => (by cases q), fun q => (by cases q.1)⟩, hc⟩
  | true =>
    refine (rwalk_any w v sv R l x hv h47 hl (fun y hy => (hf y hy).1) hm).mono fun e w' ⟨he, hc⟩ => ?_
    cases hw : walkI (R.map brul) x.data.toList l with
    | none =>
      rw [hw] at he
      exact ⟨_, _, he, ⟨fun q => (by cases q), fun q => (by cases q.1)⟩, hc⟩
    | some y =>
      rw [hw] at he
      refine ⟨_, _, he, ?_, hc⟩
      simp only [Bool.true_and, decide_eq_true_eq]
      exact ⟨fun q => ⟨by first | trivial | rfl, q⟩, fun q => q.2⟩
end Go.Proofs.YtjifdfhibkipnaaGreat
