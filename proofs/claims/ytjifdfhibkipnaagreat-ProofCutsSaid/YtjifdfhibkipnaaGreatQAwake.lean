/-
  Layer 13: awake in plain Lean; its closure.
  Layer 13: awake, walked.
-/
import Derived.Test.YtjifdfhibkipnaaGreatQMake
import Derived.Test.YtjifdfhibkipnaaGreatQCheck
import Derived.Test.YtjifdfhibkipnaaGreatWide
namespace Go.Proofs.YtjifdfhibkipnaaGreat
open Go.RowKit Go.Maps

deriving instance DecidableEq for BItem
deriving instance DecidableEq for BProof
def cutOkB (roots : Int) (C : List BCert) (p : BProof) : Bool := decide (0 ≤ roots) && (((List.range p.items.length).all fun k => match p.items[k]? with
  | some x => itemB roots C p.items k x
  | none => true) && standB roots (tot C p.items p.items.length) p.steps)
theorem cutOkB_iff {roots : Int} {C : List BCert} {p : BProof} : cutOkB roots C p = true ↔ CutOk roots C p := by
  unfold cutOkB
  rw [Bool.and_eq_true, Bool.and_eq_true, decide_eq_true_eq, List.all_eq_true]
  constructor
  · rintro ⟨h1, h2, h3⟩
    refine ⟨h1, fun k x hx => ?_, h3⟩
    have := h2 k (List.mem_range.2 (List.getElem?_eq_some_iff.1 hx).1)
    rw [hx] at this
    exact this
  · rintro ⟨h1, h2, h3⟩
    refine ⟨h1, fun k _ => ?_, h3⟩
    cases hx : p.items[k]? with
    | none => rfl
    | some x => exact h2 k x hx
theorem makeE_ok {R : List BRul} {C : List BCert} {x u : ByteArray} {b : Int} {s : ASt} {q : BProof} (h1 : acceptE R C b = .ok s) (h2 : tellPE s.rules x u b = 0) (h3 : cutOkB R.length C (wholeM R C b s x u) = true) (h4 : cutE R.length C (wholeM R C b s x u) = q) : makeE R C x u b = (0, q) := by
  unfold makeE
  rw [h1]
  simp only
  rw [if_pos h2, if_pos (cutOkB_iff.1 h3), h4]
theorem makeE_no {R : List BRul} {C : List BCert} {x u : ByteArray} {b : Int} {s : ASt} {k : Int} (h1 : acceptE R C b = .ok s) (h2 : tellPE s.rules x u b = k) (h3 : k ≠ 0) : makeE R C x u b = (k, ⟨[], []⟩) := by
  unfold makeE
  rw [h1]
  simp only
  rw [h2, if_neg h3]
def isOk13 (x : Except Int ASt) (s : ASt) : Bool := match x with
  | .ok t => decide (t.order = s.order) && decide (t.rules = s.rules)
  | .error _ => false
theorem of_isOk13 {x : Except Int ASt} {s : ASt} (h : isOk13 x s = true) : x = .ok s := by
  unfold isOk13 at h
  cases x with
  | error e => cases h
  | ok t =>
    simp only [Bool.and_eq_true, decide_eq_true_eq] at h
    cases t; cases s
    simp at h
    rw [h.1, h.2]
def k13 (i : Nat) : ByteArray := ⟨#[32, UInt8.ofNat i]⟩
def n13 : ByteArray := ⟨#[96, 1]⟩
def aw13R : List BRul := [(n13, k13 1)]
def aw13C : List BCert := [⟨6, 8197, k13 6, [k13 5], 0, 0, 0⟩, ⟨6, 8193, k13 2, [n13], 0, 0, 0⟩]
def aw13S : ASt := ⟨[0, 1], [(n13, k13 1), (k13 5, k13 6), (n13, k13 2)]⟩
def aw13P : BProof := ⟨[⟨1, [[(0, 0)]]⟩], [(0, 1)]⟩
theorem aw13_run : acceptE aw13R aw13C 20 = .ok aw13S := of_isOk13 (by decide +kernel)
theorem aw13_make : makeE aw13R aw13C n13 (k13 2) 20 = (0, aw13P) := makeE_ok aw13_run (by decide +kernel) (by decide +kernel) (by decide +kernel)
theorem aw13_none : makeE aw13R aw13C n13 (k13 5) 20 = (10, ⟨[], []⟩) := makeE_no aw13_run (by decide +kernel) (by decide)
theorem aw13_cut : ¬ CutOk 1 aw13C ⟨[], [(0, 1)]⟩ := fun h => by
  have h1 := cutOkB_iff.2 h
  have h2 : cutOkB 1 aw13C ⟨[], [(0, 1)]⟩ = false := by decide +kernel
  rw [h2] at h1
  cases h1
theorem aw13_c1 : check13 aw13R aw13C aw13P n13 (k13 2) = 0 := by decide +kernel
theorem aw13_c2 : check13 aw13R aw13C aw13P n13 (k13 1) = 13 := by decide +kernel
theorem aw13_c3 : check13 aw13R (aw13C.take 1) aw13P n13 (k13 2) = 1 := by decide +kernel
theorem aw13_h : heavyE aw13P = 2 := by decide +kernel
theorem kword13_any (w : World) (i : Nat) (z : Int) (hz : z = i) (x : ByteArray) (hi : i < 100) (hx : (⟨(ofAtoms [8192 + i]).toArray⟩ : ByteArray) = x) : Calls Tryz.prog 27 #[.int .i64 z] w fun e w' => e = .returned (.string x) ∧ Chg (fun _ => False) w w' := by
  subst hz
  have w1 : IntKind.i64.wrap (8192 + (i : Int)) = ((8192 + i : Nat) : Int) := by rw [IntKind.wrap_i64]; omega
  have w2 : IntKind.u16.wrap ((8192 + i : Nat) : Int) = ((8192 + i : Nat) : Int) := by show ((8192 + i : Nat) : Int) % 65536 = _; omega
  have OF := Lib.hid (of_one w (8192 + i) _ rfl x (by omega) hx)
  clear hx
  go_enter Tryz.func27, Tryz.ntmps27
  generalize 8192 + i = n at *
  go_wp2_with fail
  (with_reducible refine (OF.out).mono ?_)
  rintro e w2 ⟨rfl, k2⟩
  go_wp2
  go_ret
  exact ⟨rfl, k2⟩
theorem certsAt_take {w : World} {la : Option Addr} {n cap m : Nat} {G : Nat → Prop} {P : List (BCert × Value)} (h : CertsAt w (.slice la n cap) G P) (hm : m ≤ P.length) : CertsAt w (.slice la m cap) G (P.take m) := by
  obtain ⟨la', cap', e, h2, h3⟩ := h
  cases e
  have hl : (P.take m).length = m := by rw [List.length_take]; omega
  refine ⟨la, cap, by rw [hl], by rw [hl]; omega, fun j r hj => ?_⟩
  rw [List.getElem?_take] at hj
  split at hj
  · exact h3 j r hj
  · cases hj
end Go.Proofs.YtjifdfhibkipnaaGreat

namespace Go.Proofs.YtjifdfhibkipnaaGreat
open Go.RowKit Go.Maps

theorem run_take {w : World} {ra : Option Addr} {R : List BRul} {rc : Nat} {la : Option Addr} {n cap : Nat} {P : List (BCert × Value)} {G : Nat → Prop} (h : RunArgs w ra R rc (.slice la n cap) P G) : RulesAt w (.slice ra R.length rc) (· < w.heap.size) R ∧ CertsAt w (.slice la n cap) (· < w.heap.size) P :=
  ⟨h.rules.imp h.low, h.certs.up h.low⟩
theorem sets13_one {w : World} {g : Nat} {c : BCert} (h : SetAt w (.slice (some ⟨g, 0, none⟩) 1 1) (fun k => k = g) c.fr) (hsp : c.sp.size ≤ maxLen) (hsg : c.sg < 65536) (hl : c.fr.length = 1) {G : Nat → Prop} (hg : G g) : Sets7 w G [(c, .slice (some ⟨g, 0, none⟩) 1 1)] := fun p hp => by
  rw [List.mem_singleton] at hp
  subst hp
  refine ⟨some ⟨g, 0, none⟩, 1, by simp only; rw [hl], ?_⟩
  simp only
  rw [hl]
  exact ⟨⟨h.at_.up (fun k hk => by rw [hk]; exact hg), h.nil⟩, hsp, hsg⟩
set_option maxHeartbeats 8000000 in
set_option maxRecDepth 100000 in
theorem awake13_any (w : World) : Calls Tryz.prog 10 #[] w fun e w' => e = .returned (.bool true) ∧ Chg (fun _ => False) w w' := by
  obtain ⟨y, hy⟩ : ∃ y, y = n13 := ⟨_, rfl⟩
  obtain ⟨x1, hx1⟩ : ∃ y, y = k13 1 := ⟨_, rfl⟩
  obtain ⟨x2, hx2⟩ : ∃ y, y = k13 2 := ⟨_, rfl⟩
  obtain ⟨x5, hx5⟩ : ∃ y, y = k13 5 := ⟨_, rfl⟩
  obtain ⟨x6, hx6⟩ : ∃ y, y = k13 6 := ⟨_, rfl⟩
  have sz : y.size ≤ 100 ∧ x1.size ≤ 100 ∧ x2.size ≤ 100 ∧ x5.size ≤ 100 ∧ x6.size ≤ 100 := by subst hy hx1 hx2 hx5 hx6; decide +kernel
  obtain ⟨zy, z1, z2, z5, z6⟩ := sz
  obtain ⟨CC, hCC⟩ : ∃ CC : List BCert, CC = [⟨6, 8197, x6, [x5], 0, 0, 0⟩, ⟨6, 8193, x2, [y], 0, 0, 0⟩] := ⟨_, rfl⟩
  have MK := Lib.hid (show makeE [(y, x1)] CC y x2 20 = (0, aw13P) by subst hCC hy hx1 hx2 hx5 hx6; exact aw13_make)
  have MN := Lib.hid (show makeE [(y, x1)] CC y x5 20 = (10, ⟨[], []⟩) by subst hCC hy hx1 hx2 hx5 hx6; exact aw13_none)
  have NC := Lib.hid (show ¬ CutOk 1 CC ⟨[], [(0, 1)]⟩ by subst hCC hy hx2 hx5 hx6; exact aw13_cut)
  have C1 := Lib.hid (show check13 [(y, x1)] CC aw13P y x2 = 0 by subst hCC hy hx1 hx2 hx5 hx6; exact aw13_c1)
  have C2 := Lib.hid (show check13 [(y, x1)] CC aw13P y x1 = 13 by subst hCC hy hx1 hx2 hx5 hx6; exact aw13_c2)
  have C3 := Lib.hid (show check13 [(y, x1)] (CC.take 1) aw13P y x2 = 1 by subst hCC hy hx1 hx2 hx5 hx6; exact aw13_c3)
  have HE := Lib.hid aw13_h
  have O1 := Lib.hid (of_one w 24577 24577 rfl y (by decide) (by rw [hy]; rfl))
  have KW1 := Lib.hid (fun w => kword13_any w 1 1 rfl x1 (by decide) (by rw [hx1]; rfl))
  have KW2 := Lib.hid (fun w => kword13_any w 2 2 rfl x2 (by decide) (by rw [hx2]; rfl))
  have KW5 := Lib.hid (fun w => kword13_any w 5 5 rfl x5 (by decide) (by rw [hx5]; rfl))
  have KW6 := Lib.hid (fun w => kword13_any w 6 6 rfl x6 (by decide) (by rw [hx6]; rfl))
  clear hy hx1 hx2 hx5 hx6
  have e1 : ∀ args w, (callFunc 27 args).run Tryz.prog w = .ok (.enter 27 args) w := enters_of Tryz.func27 (by kernel_rfl) rfl
  go_enter Tryz.func10, Tryz.ntmps10
  go_wp2_with fail
  (with_reducible refine (O1.out).mono ?_)
  rintro e w1 ⟨rfl, k1⟩
  have K1 := Lib.hid k1
  clear k1 O1
  go_wp2_with fail
  (with_reducible refine (KW1.out _).mono ?_)
  rintro e w2 ⟨rfl, k2⟩
  have K2 := Lib.hid (K1.out.trans k2)
  clear k2 K1
  go_wp2_with fail
  have kr := chg_alloc (fun _ => False) w2 (.cells #[.string y, .string x1] 69)
  have OR3 := Lib.hid (show (w2.alloc (.cells #[.string y, .string x1] 69)).ownsRow w2.heap.size 69 2 (.slice (some ⟨w2.heap.size, 0, none⟩) 1 1) 1 (ruleCells [(y, x1)]) from own_lit rfl (by decide))
  have K3 := Lib.hid (K2.out.trans kr)
  clear kr K2
  generalize w2.alloc (.cells #[.string y, .string x1] 69) = w3 at *
  generalize w2.heap.size = gr at *
  (with_reducible refine (KW6.out _).mono ?_)
  rintro e w4 ⟨rfl, k4⟩
  have K4 := Lib.hid (K3.out.trans k4)
  have OR4 := Lib.hid (own_chg OR3.out k4 (fun _ _ e => e))
  clear k4 K3 OR3 KW6
  go_wp2_with fail
  (with_reducible refine (KW5.out _).mono ?_)
  rintro e w5 ⟨rfl, k5⟩
  have ka := chg_alloc (fun _ => False) w5 (.cells #[.string x5] 24)
  have S1 := Lib.hid (setAt_l1 w5 x5 z5)
  have K6 := Lib.hid ((K4.out.trans k5).trans ka)
  have OR6 := Lib.hid (own_chg OR4.out (k5.trans ka) (fun _ _ e => e))
  have hg1 : w5.heap.size < (w5.alloc (.cells #[.string x5] 24)).heap.size := by rw [World.size_alloc]; omega
  clear k5 ka K4 OR4
  go_wp2_with fail
  generalize w5.alloc (.cells #[.string x5] 24) = w6 at *
  generalize w5.heap.size = g1 at *
  (with_reducible refine (KW2.out _).mono ?_)
  rintro e w7 ⟨rfl, k7⟩
  have ka := chg_alloc (fun _ => False) w7 (.cells #[.string y] 24)
  have S2 := Lib.hid (setAt_l1 w7 y zy)
  have S18 := Lib.hid (S1.out.chg (k7.trans ka) (fun _ _ e => e))
  have K8 := Lib.hid ((K6.out.trans k7).trans ka)
  have OR8 := Lib.hid (own_chg OR6.out (k7.trans ka) (fun _ _ e => e))
  have hg2 : w7.heap.size < (w7.alloc (.cells #[.string y] 24)).heap.size := by rw [World.size_alloc]; omega
  have hg18 : g1 < (w7.alloc (.cells #[.string y] 24)).heap.size := by have := k7.size; omega
  clear k7 ka K6 OR6 S1 hg1
  have e8 : w7.heap.size + 1 = (w7.alloc (.cells #[.string y] 24)).heap.size := (World.size_alloc _ _).symm
  have E8 := Lib.hid e8
  clear e8
  go_wp2_with fail
  rw [E8.out]
  clear E8
  generalize w7.alloc (.cells #[.string y] 24) = w8 at *
  generalize w7.heap.size = g2 at *
  obtain ⟨PP, hPP⟩ : ∃ PP : List (BCert × Value), PP = [(⟨6, 8197, x6, [x5], 0, 0, 0⟩, .slice (some ⟨g1, 0, none⟩) 1 1), (⟨6, 8193, x2, [y], 0, 0, 0⟩, .slice (some ⟨g2, 0, none⟩) 1 1)] := ⟨_, rfl⟩
  have HCP : certsOf PP = CC := by subst hPP hCC; rfl
  have HPL : PP.length = 2 := by subst hPP; rfl
  have kc := chg_alloc (fun _ => False) w8 (.cells #[.int .i64 6, .int .u16 8197, .string x6, .slice (some ⟨g1, 0, none⟩) 1 1, .int .i64 0, .int .i64 0, .int .i64 0, .int .i64 6, .int .u16 8193, .string x2, .slice (some ⟨g2, 0, none⟩) 1 1, .int .i64 0, .int .i64 0, .int .i64 0] 60)
  have OW := Lib.hid (show (w8.alloc (.cells #[.int .i64 6, .int .u16 8197, .string x6, .slice (some ⟨g1, 0, none⟩) 1 1, .int .i64 0, .int .i64 0, .int .i64 0, .int .i64 6, .int .u16 8193, .string x2, .slice (some ⟨g2, 0, none⟩) 1 1, .int .i64 0, .int .i64 0, .int .i64 0] 60)).ownsRow w8.heap.size 60 7 (.slice (some ⟨w8.heap.size, 0, none⟩) 2 2) PP.length (pcellsL PP) from by subst hPP; exact own_lit rfl (by decide))
  have ST := Lib.hid (show Sets7 (w8.alloc (.cells #[.int .i64 6, .int .u16 8197, .string x6, .slice (some ⟨g1, 0, none⟩) 1 1, .int .i64 0, .int .i64 0, .int .i64 0, .int .i64 6, .int .u16 8193, .string x2, .slice (some ⟨g2, 0, none⟩) 1 1, .int .i64 0, .int .i64 0, .int .i64 0] 60)) (fun k => k < (w8.alloc (.cells #[.int .i64 6, .int .u16 8197, .string x6, .slice (some ⟨g1, 0, none⟩) 1 1, .int .i64 0, .int .i64 0, .int .i64 0, .int .i64 6, .int .u16 8193, .string x2, .slice (some ⟨g2, 0, none⟩) 1 1, .int .i64 0, .int .i64 0, .int .i64 0] 60)).heap.size) PP from by
    have h1 := kc.size
    subst hPP
    exact (sets13_one (S18.out.chg kc (fun _ _ e => e)) (by simp only; unfold maxLen; omega) (by simp) rfl (by omega)).append (sets13_one (S2.out.chg kc (fun _ _ e => e)) (by simp only; unfold maxLen; omega) (by simp) rfl (by omega)))
  have K9 := Lib.hid (K8.out.trans kc)
  have OR9 := Lib.hid (own_chg OR8.out kc (fun _ _ e => e))
  clear kc K8 OR8 S18 S2 hg2 hg18
  generalize w8.alloc (.cells #[.int .i64 6, .int .u16 8197, .string x6, .slice (some ⟨g1, 0, none⟩) 1 1, .int .i64 0, .int .i64 0, .int .i64 0, .int .i64 6, .int .u16 8193, .string x2, .slice (some ⟨g2, 0, none⟩) 1 1, .int .i64 0, .int .i64 0, .int .i64 0] 60) = w9 at *
  generalize w8.heap.size = gc at *
  have RA := Lib.hid (show RunArgs w9 (some ⟨gr, 0, none⟩) [(y, x1)] 1 (.slice (some ⟨gc, 0, none⟩) 2 2) PP (fun k => k < w9.heap.size) from
    ⟨(rulesAt_blk OR9.out (fun r hr => by rw [List.mem_singleton] at hr; subst hr; unfold maxLen; simp only; omega)).imp (fun k hk => (OR9.out.lt k hk).2), (fun e => by cases e), (by simp), (fun _ r hr => by rw [List.mem_singleton] at hr; subst hr; simp only; omega),
      (certsAt_own OW.out ST.out).up (fun k hk => hk.elim id (fun e => (OW.out.lt k e).2)), (by rw [HPL]; omega), fun k hk => hk⟩)
  have HFR := Lib.hid (show ∀ c ∈ certsOf PP, c.fr.length ≤ 1000 from by
    rw [HCP, hCC]
    intro c hc
    simp at hc
    rcases hc with rfl | rfl <;> simp)
  have HCPH := Lib.hid HCP
  have HPLH := Lib.hid HPL
  clear HCP HPL hPP hCC OW ST OR9
  have M1 := Lib.hid (fun W (k : Chg (fun _ => False) w9 W) => show Calls Tryz.prog 12 #[.slice (some ⟨gr, 0, none⟩) 1 1, .slice (some ⟨gc, 0, none⟩) 2 2, .string y, .string x2, .int .i64 20] W (MakeRes W (0, aw13P)) from by
    have := make_any W (some ⟨gr, 0, none⟩) [(y, x1)] 1 (.slice (some ⟨gc, 0, none⟩) 2 2) PP (fun k => k < w9.heap.size) 20 y x2 (RA.out.chg k) (by unfold maxLen; omega) (by unfold maxLen; omega) HFR.out
    rw [HCPH.out, MK.out] at this
    exact this)
  have M2 := Lib.hid (fun W (k : Chg (fun _ => False) w9 W) => show Calls Tryz.prog 12 #[.slice (some ⟨gr, 0, none⟩) 1 1, .slice (some ⟨gc, 0, none⟩) 2 2, .string y, .string x5, .int .i64 20] W (MakeRes W (10, ⟨[], []⟩)) from by
    have := make_any W (some ⟨gr, 0, none⟩) [(y, x1)] 1 (.slice (some ⟨gc, 0, none⟩) 2 2) PP (fun k => k < w9.heap.size) 20 y x5 (RA.out.chg k) (by unfold maxLen; omega) (by unfold maxLen; omega) HFR.out
    rw [HCPH.out, MN.out] at this
    exact this)
  have CUT := Lib.hid (fun W (k : Chg (fun _ => False) w9 W) sv (hsv : StepsN W sv (· < W.heap.size) [(0, 1)]) => show Calls Tryz.prog 19 #[.int .i64 1, .slice (some ⟨gc, 0, none⟩) 2 2, .agg #[.slice none 0 0, sv]] W (fun e w' => e = .returned (.tuple #[.agg #[.slice none 0 0, .slice none 0 0], .int .i64 2]) ∧ Chg (fun _ => False) W w') from by
    have := cut_any W 1 (.slice (some ⟨gc, 0, none⟩) 2 2) (.slice none 0 0) sv PP ⟨[], [(0, 1)]⟩ (fun k => k < w9.heap.size) (· < W.heap.size) (RA.out.chg k).certs ⟨items_nil _ _, hsv⟩ (fun _ e => e) ⟨(fun x hx => by cases hx), (fun s hs => by simp at hs; subst hs; unfold Fit64; simp)⟩ (by simp) HFR.out (by simp) (fun x hx => by cases hx)
    refine this.mono fun e w' ⟨hc, hr⟩ => ?_
    rw [HCPH.out] at hr
    rcases hr with ⟨h, _⟩ | ⟨_, h⟩
    · exact absurd h NC.out
    · exact ⟨h, hc⟩)
  have CHK := Lib.hid (fun W (k : Chg (fun _ => False) w9 W) iv sv (u : ByteArray) (hp : ProofAt W iv sv (· < W.heap.size) aw13P) => show Calls Tryz.prog 17 #[.slice (some ⟨gr, 0, none⟩) 1 1, .slice (some ⟨gc, 0, none⟩) 2 2, .agg #[iv, sv], .string y, .string u] W (fun e w' => e = .returned (.int .i64 (check13 [(y, x1)] CC aw13P y u)) ∧ Chg (fun _ => False) W w') from by
    obtain ⟨h1, h2⟩ := run_take (RA.out.chg k)
    have := check_any13 W (some ⟨gr, 0, none⟩) [(y, x1)] 1 (.slice (some ⟨gc, 0, none⟩) 2 2) iv sv PP aw13P y u h1 (fun e => by cases e) (by simp) h2 (by rw [HPLH.out]; omega) hp (by decide) (by unfold maxLen; omega)
    rw [HCPH.out] at this
    exact this)
  have CHK1 := Lib.hid (fun W (k : Chg (fun _ => False) w9 W) iv sv (u : ByteArray) (hp : ProofAt W iv sv (· < W.heap.size) aw13P) => show Calls Tryz.prog 17 #[.slice (some ⟨gr, 0, none⟩) 1 1, .slice (some ⟨gc, 0, none⟩) 1 2, .agg #[iv, sv], .string y, .string u] W (fun e w' => e = .returned (.int .i64 (check13 [(y, x1)] (CC.take 1) aw13P y u)) ∧ Chg (fun _ => False) W w') from by
    obtain ⟨h1, h2⟩ := run_take (RA.out.chg k)
    have h3 := certsAt_take (m := 1) h2 (by rw [HPLH.out]; omega)
    have hl : (PP.take 1).length = 1 := by rw [List.length_take, HPLH.out]; rfl
    have := check_any13 W (some ⟨gr, 0, none⟩) [(y, x1)] 1 (.slice (some ⟨gc, 0, none⟩) 1 2) iv sv (PP.take 1) aw13P y u h1 (fun e => by cases e) (by simp) h3 (by rw [hl]; omega) hp (by decide) (by unfold maxLen; omega)
    rw [show certsOf (PP.take 1) = CC.take 1 from by rw [← HCPH.out]; unfold certsOf; rw [List.map_take]] at this
    exact this)
  clear RA HFR HCPH HPLH MK MN NC
  go_wp2_with fail
  (with_reducible refine (KW2.out _).mono ?_)
  rintro e w10 ⟨rfl, k10⟩
  have MM1 := Lib.hid (M1.out w10 k10)
  have D10 := Lib.hid k10
  clear k10 M1
  go_wp2_with fail
  (with_reducible refine (MM1.out).mono ?_)
  rintro e w11 ⟨k11, iv, sv, rfl, hit, hst⟩
  clear MM1
  have HP0 : ProofAt w11 iv sv (· < w11.heap.size) aw13P := ⟨hit.up (fun k hk => hk.2), (stepsN_own hst).up (fun k hk => (hst.lt k hk).2)⟩
  have hst' : w11.ownsRow w10.heap.size 45 2 sv 1 [.int .i64 0, .int .i64 1] := hst
  obtain ⟨sa, s2, rfl⟩ := own_shape hst'
  obtain ⟨sb, rfl⟩ := own_some hst' (by omega)
  obtain ⟨_, _, es, _, hcs⟩ := (stepsN_own (l := [(0, 1)]) hst').at_
  cases es
  obtain ⟨_, _, es2, _, _, st1⟩ := hcs 0 (0, 1) rfl
  cases es2
  have st1 : w11.cell? ⟨sb, 1, none⟩ = some (.int .i64 1) := st1
  obtain ⟨ia, ic, e, _, hic⟩ := hit
  have e' : iv = .slice ia 1 ic := e
  subst e'
  obtain ⟨lb, lo, pv, rfl, _, i0, i1, hpa⟩ := hic 0 ⟨1, [[(0, 0)]]⟩ rfl
  obtain ⟨pa, pc, e2, _⟩ := hpa
  have e2' : pv = .slice pa 1 pc := e2
  subst e2'
  simp only [Nat.zero_mul, Nat.add_zero] at i0 i1
  have kb5 := chg_alloc (fun _ => False) w11 (.cells #[.slice (some ⟨lb, lo, none⟩) 1 ic, .slice (some ⟨sb, 0, none⟩) 1 s2] 30)
  have ob5 := obj_alloc_new w11 (.cells #[.slice (some ⟨lb, lo, none⟩) 1 ic, .slice (some ⟨sb, 0, none⟩) 1 s2] 30)
  have HPP := Lib.hid (fun (W : World) (k : Chg (fun _ => False) (w11.alloc (.cells #[.slice (some ⟨lb, lo, none⟩) 1 ic, .slice (some ⟨sb, 0, none⟩) 1 s2] 30)) W) => (HP0.chg (kb5.trans k) (fun _ _ e => e)).up (fun j hj => Nat.lt_of_lt_of_le hj (kb5.trans k).size))
  have FACTS := Lib.hid (fun (W : World) (k : Chg (fun _ => False) (w11.alloc (.cells #[.slice (some ⟨lb, lo, none⟩) 1 ic, .slice (some ⟨sb, 0, none⟩) 1 s2] 30)) W) => And.intro (show W.cell? ⟨w11.heap.size, 0, none⟩ = some (.slice (some ⟨lb, lo, none⟩) 1 ic) from cell_of (o := 0) (k.obj (fun e => e) ob5) rfl) (And.intro (show W.cell? ⟨w11.heap.size, 1, none⟩ = some (.slice (some ⟨sb, 0, none⟩) 1 s2) from cell_of (o := 1) (k.obj (fun e => e) ob5) rfl)
    (And.intro (show W.cell? ⟨lb, lo, none⟩ = some (.int .i64 1) from cell_chg (kb5.trans k) (fun e => e) i0) (And.intro (show W.cell? ⟨lb, lo + 1, none⟩ = some (.slice pa 1 pc) from cell_chg (kb5.trans k) (fun e => e) i1) (show W.cell? ⟨sb, 1, none⟩ = some (.int .i64 1) from cell_chg (kb5.trans k) (fun e => e) st1)))))
  have K12 := Lib.hid (K9.out.trans ((D10.out.trans k11).trans kb5))
  have D12 := Lib.hid ((D10.out.trans k11).trans kb5)
  clear k11 kb5 ob5 HP0 hst hst' hcs st1 hic i0 i1 K9 D10 e e2
  go_wp2_with fail
  generalize (w11.alloc (.cells #[.slice (some ⟨lb, lo, none⟩) 1 ic, .slice (some ⟨sb, 0, none⟩) 1 s2] 30)) = w12 at *
  generalize w11.heap.size = b5 at *
  (with_reducible refine (KW5.out _).mono ?_)
  rintro e w13 ⟨rfl, k13⟩
  have E13 := Lib.hid k13
  have MM2 := Lib.hid (M2.out w13 (D12.out.trans k13))
  clear k13 M2 KW5
  go_wp2_with fail
  (with_reducible refine (MM2.out).mono ?_)
  rintro e w14 ⟨k14, iv2, sv2, rfl, hit2, hst2⟩
  clear MM2
  obtain ⟨a2, c2, e2, _⟩ := hit2
  have e2' : iv2 = .slice a2 0 c2 := e2
  have e3 : ∃ a c, sv2 = .slice a 0 c := own_shape hst2
  obtain ⟨a3, c3, e3⟩ := e3
  subst e2' e3
  have kb7 := chg_alloc (fun _ => False) w14 (.cells #[.slice a2 0 c2, .slice a3 0 c3] 30)
  have E15 := Lib.hid ((E13.out.trans k14).trans kb7)
  have HV := Lib.hid (show Calls Tryz.prog 21 #[.agg #[.slice (some ⟨lb, lo, none⟩) 1 ic, .slice (some ⟨sb, 0, none⟩) 1 s2]] _ (fun e w' => e = .returned (.int .i64 2) ∧ Chg (fun _ => False) (w14.alloc (.cells #[.slice a2 0 c2, .slice a3 0 c3] 30)) w') from by
    have := heavy_any _ _ _ _ aw13P (HPP.out _ E15.out) (by decide) (by decide) (by decide)
    rw [HE.out] at this
    exact this)
  obtain ⟨q0, q1, q2, q3, q4⟩ := FACTS.out _ E15.out
  clear k14 kb7 E13 hst2 e2 HE
  go_wp2_with fail
  clear q0 q1 q2 q3 q4
  generalize w14.alloc (.cells #[.slice a2 0 c2, .slice a3 0 c3] 30) = w15 at *
  (with_reducible refine (HV.out).mono ?_)
  rintro e w16 ⟨rfl, k16⟩
  have E16 := Lib.hid (E15.out.trans k16)
  clear HV k16 E15
  have ks := chg_alloc (fun _ => False) w16 (.cells #[.int .i64 0, .int .i64 1] 45)
  have kb := chg_alloc (fun _ => False) (w16.alloc (.cells #[.int .i64 0, .int .i64 1] 45)) (.cells #[.slice none 0 0, .slice (some ⟨w16.heap.size, 0, none⟩) 1 1] 30)
  have os : (w16.alloc (.cells #[.int .i64 0, .int .i64 1] 45)).ownsRow w16.heap.size 45 2 (.slice (some ⟨w16.heap.size, 0, none⟩) 1 1) ([(0, 1)] : BSteps).length (scells [(0, 1)]) := own_lit rfl (by decide)
  have E17 := Lib.hid ((E16.out.trans ks).trans kb)
  have CT := Lib.hid (CUT.out _ (D12.out.trans E17.out) (.slice (some ⟨w16.heap.size, 0, none⟩) 1 1) ((stepsN_own (own_chg os kb (fun _ _ e => e))).up (fun k hk => (((own_chg os kb (fun _ _ e => e)).lt k hk)).2)))
  clear ks kb os CUT E16
  go_wp2_with fail
  generalize (w16.alloc (.cells #[.int .i64 0, .int .i64 1] 45)).alloc (.cells #[.slice none 0 0, .slice (some ⟨w16.heap.size, 0, none⟩) 1 1] 30) = w17 at *
  (with_reducible refine (CT.out).mono ?_)
  rintro e w18 ⟨rfl, k18⟩
  have kb := chg_alloc (fun _ => False) w18 (.cells #[.slice none 0 0, .slice none 0 0] 30)
  have E19 := Lib.hid ((E17.out.trans k18).trans kb)
  clear CT k18 kb E17
  go_wp2_with fail
  generalize w18.alloc (.cells #[.slice none 0 0, .slice none 0 0] 30) = w19 at *
  have F2 := Lib.hid (fun (W : World) (k : Chg (fun _ => False) w12 W) => And.intro (FACTS.out W k).1 (FACTS.out W k).2.1)
  clear FACTS
  have D20 := Lib.hid (chg_drew (fun _ => False) w19)
  have E20 := Lib.hid (E19.out.trans D20.out)
  have fa := F2.out _ E20.out
  refine wp_region_plan (N := 139) [.rd [0, 1, 2, 3, 4], .ef 5, .ef 6, .rd [7, 8, 9, 10, 11, 12, 13], .ef 14, .ef 15, .rd [16, 17, 18, 19, 20, 21, 22, 23, 24], .ef 25, .ef 26, .rd [27, 28, 29, 30, 31, 32, 33]] (fun W => W.cell? ⟨b5, 0, none⟩ = some (.slice (some ⟨lb, lo, none⟩) 1 ic) ∧ W.cell? ⟨b5, 1, none⟩ = some (.slice (some ⟨sb, 0, none⟩) 1 s2)) (by kernel_rfl) (by kernel_rfl) (by kernel_rfl) (by kernel_rfl) (Nat.le_of_ble_eq_true rfl) fa ?_
  clear D20 E19 fa
  refine plan_rd (A := ?A1) ?h1 ?h2
  case h1 =>
    rintro w' ⟨f1, f2⟩ K hK
    simp only [opsAt, List.filterMap_cons, List.filterMap_nil, List.getElem?_toArray, List.getElem?_cons_succ, List.getElem?_cons_zero]
    repeat still_step
    refine wpStill_nil ?_
    exact hK
  generalize w19.drew = w20 at *
  refine plan_ef rfl ?_
  go_wp2_with fail
  (with_reducible refine (KW2.out _).mono ?_)
  rintro e w21 ⟨rfl, k21⟩
  have E21 := Lib.hid (E20.out.trans k21)
  have CK := Lib.hid (CHK.out w21 (D12.out.trans E21.out) _ _ x2 (HPP.out _ E21.out))
  rw [C1.out] at CK
  clear k21 E20
  go_wp2_with fail
  refine ⟨F2.out _ E21.out, ?_⟩
  refine plan_ef rfl ?_
  go_wp2_with fail
  (with_reducible refine (CK.out).mono ?_)
  rintro e w22 ⟨rfl, k22⟩
  have E22 := Lib.hid (E21.out.trans k22)
  clear k22 E21 CK
  go_wp2_with fail
  refine ⟨F2.out _ E22.out, ?_⟩
  refine plan_rd (A := ?A2) ?h3 ?h4
  case h3 =>
    rintro w' ⟨f1, f2⟩ K hK
    simp only [opsAt, List.filterMap_cons, List.filterMap_nil, List.getElem?_toArray, List.getElem?_cons_succ, List.getElem?_cons_zero]
    repeat still_step
    refine wpStill_nil ?_
    exact hK
  refine plan_ef rfl ?_
  go_wp2_with fail
  (with_reducible refine (KW1.out _).mono ?_)
  rintro e w23 ⟨rfl, k23⟩
  have E23 := Lib.hid (E22.out.trans k23)
  have CK := Lib.hid (CHK.out w23 (D12.out.trans E23.out) _ _ x1 (HPP.out _ E23.out))
  rw [C2.out] at CK
  clear k23 E22 CHK
  go_wp2_with fail
  refine ⟨F2.out _ E23.out, ?_⟩
  refine plan_ef rfl ?_
  go_wp2_with fail
  (with_reducible refine (CK.out).mono ?_)
  rintro e w24 ⟨rfl, k24⟩
  have E24 := Lib.hid (E23.out.trans k24)
  clear k24 E23 CK
  go_wp2_with fail
  refine ⟨F2.out _ E24.out, ?_⟩
  refine plan_rd (A := ?A3) ?h5 ?h6
  case h5 =>
    rintro w' ⟨f1, f2⟩ K hK
    simp only [opsAt, List.filterMap_cons, List.filterMap_nil, List.getElem?_toArray, List.getElem?_cons_succ, List.getElem?_cons_zero]
    repeat still_step
    refine wpStill_nil ?_
    exact hK
  refine plan_ef rfl ?_
  go_wp2_with fail
  (with_reducible refine (KW2.out _).mono ?_)
  rintro e w25 ⟨rfl, k25⟩
  have E25 := Lib.hid (E24.out.trans k25)
  have CK := Lib.hid (CHK1.out w25 (D12.out.trans E25.out) _ _ x2 (HPP.out _ E25.out))
  rw [C3.out] at CK
  clear k25 E24 CHK1
  go_wp2_with fail
  refine ⟨F2.out _ E25.out, ?_⟩
  refine plan_ef rfl ?_
  go_wp2_with fail
  (with_reducible refine (CK.out).mono ?_)
  rintro e w26 ⟨rfl, k26⟩
  have E26 := Lib.hid (E25.out.trans k26)
  clear k26 E25 CK
  go_wp2_with fail
  refine ⟨F2.out _ E26.out, ?_⟩
  refine plan_rd (A := ?A4) ?h7 ?h8
  case h7 =>
    rintro w' ⟨f1, f2⟩ K hK
    simp only [opsAt, List.filterMap_cons, List.filterMap_nil, List.getElem?_toArray, List.getElem?_cons_succ, List.getElem?_cons_zero]
    repeat still_step
    refine wpStill_nil ?_
    exact hK
  refine plan_nil ?_
  go_wp2
  go_ret
  exact ⟨rfl, K12.out.trans E26.out⟩
end Go.Proofs.YtjifdfhibkipnaaGreat
