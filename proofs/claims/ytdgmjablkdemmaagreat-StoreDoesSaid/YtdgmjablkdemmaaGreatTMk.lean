/-
  Layer 15's laws: large, ints; the reference's Same, of one certificate.
  A store of a value of many cells into a variable of as many.
  Layer 15: awake.
  Layer 15: awake in plain Lean.
-/
import Derived.Test.YtdgmjablkdemmaaGreatTArgs
import Derived.Test.YtdgmjablkdemmaaGreatSSetQ
import Derived.Test.YtdgmjablkdemmaaGreatWide
namespace Go.Proofs.YtdgmjablkdemmaaGreat
open Go.RowKit Go.Maps

theorem sameB_refl (l : List ByteArray) : sameB l l = true := by unfold sameB; simp
set_option maxHeartbeats 2000000 in
set_option maxRecDepth 100000 in
theorem same8_any (w : World) (c : BCert) (sa sb : Option Addr) (sc sd : Nat) (G H : Nat → Prop) (hc : CertAt w (.slice sa c.fr.length sc) G c) (hd : CertAt w (.slice sb c.fr.length sd) H c) :
    Calls Tryz.prog 20 #[certV c (.slice sa c.fr.length sc), certV c (.slice sb c.fr.length sd)] w fun e w' => e = .returned (.bool true) ∧ Chg (fun _ => False) w w' := by
  obtain ⟨kind, sg, sp, fr, f, t, n⟩ := c
  unfold certV
  simp only at hc hd ⊢
  have k0 := chg_alloc (fun _ => False) w (.cells #[.int .i64 kind, .int .u16 (sg : Int), .string sp, .slice sa fr.length sc, .int .i64 f, .int .i64 t, .int .i64 n] 34)
  have k1 := chg_alloc (fun _ => False) (w.alloc (.cells #[.int .i64 kind, .int .u16 (sg : Int), .string sp, .slice sa fr.length sc, .int .i64 f, .int .i64 t, .int .i64 n] 34)) (.cells #[.int .i64 kind, .int .u16 (sg : Int), .string sp, .slice sb fr.length sd, .int .i64 f, .int .i64 t, .int .i64 n] 34)
  have o1 := k1.obj (fun e => e) (obj_alloc_new w (.cells #[.int .i64 kind, .int .u16 (sg : Int), .string sp, .slice sa fr.length sc, .int .i64 f, .int .i64 t, .int .i64 n] 34))
  have o2 := obj_alloc_new (w.alloc (.cells #[.int .i64 kind, .int .u16 (sg : Int), .string sp, .slice sa fr.length sc, .int .i64 f, .int .i64 t, .int .i64 n] 34)) (.cells #[.int .i64 kind, .int .u16 (sg : Int), .string sp, .slice sb fr.length sd, .int .i64 f, .int .i64 t, .int .i64 n] 34)
  rw [World.size_alloc] at o2
  have RQ := requal_any _ _ _ _ _ _ _ ((hc.set.at_.chg k0 (fun _ _ e => e)).chg k1 (fun _ _ e => e)) ((hd.set.at_.chg k0 (fun _ _ e => e)).chg k1 (fun _ _ e => e))
  rw [sameB_refl] at RQ
  have RQ := Lib.hid RQ
  have K := Lib.hid (k0.trans k1)
  have g1 : (sp.toList == sp.toList) = true := by rw [str_eq, decide_eq_true rfl]
  have c0 := cell_of (o := 0) o1 rfl
  have d0 := cell_of (o := 0) o2 rfl
  have c1 := cell_of (o := 1) o1 rfl
  have d1 := cell_of (o := 1) o2 rfl
  have c2 := cell_of (o := 2) o1 rfl
  have d2 := cell_of (o := 2) o2 rfl
  have c3 := cell_of (o := 3) o1 rfl
  have d3 := cell_of (o := 3) o2 rfl
  have c4 := cell_of (o := 4) o1 rfl
  have d4 := cell_of (o := 4) o2 rfl
  have c5 := cell_of (o := 5) o1 rfl
  have d5 := cell_of (o := 5) o2 rfl
  have c6 := cell_of (o := 6) o1 rfl
  have d6 := cell_of (o := 6) o2 rfl
  have O1 := Lib.hid o1
  have O2 := Lib.hid o2
  clear hc hd k0 k1 o1 o2
  go_enter Tryz.func20, Tryz.ntmps20
  go_wp2_with fail
  clear c0 c1 c2 c3 c4 c5 c6 d0 d1 d2 d3 d4 d5 d6
  generalize (w.alloc (.cells #[.int .i64 kind, .int .u16 (sg : Int), .string sp, .slice sa fr.length sc, .int .i64 f, .int .i64 t, .int .i64 n] 34)).alloc (.cells #[.int .i64 kind, .int .u16 (sg : Int), .string sp, .slice sb fr.length sd, .int .i64 f, .int .i64 t, .int .i64 n] 34) = wa at *
  (with_reducible refine (RQ.out).mono ?_)
  rintro e w2 ⟨rfl, dr⟩
  have k2 : Chg (fun _ => False) wa w2 := dr.chg
  have c4 := cell_of (o := 4) (k2.obj (fun e => e) O1.out) rfl
  have d4 := cell_of (o := 4) (k2.obj (fun e => e) O2.out) rfl
  have c5 := cell_of (o := 5) (k2.obj (fun e => e) O1.out) rfl
  have d5 := cell_of (o := 5) (k2.obj (fun e => e) O2.out) rfl
  have c6 := cell_of (o := 6) (k2.obj (fun e => e) O1.out) rfl
  have d6 := cell_of (o := 6) (k2.obj (fun e => e) O2.out) rfl
  have K2 := Lib.hid (K.out.trans k2)
  clear k2 dr RQ K
  go_wp2
  go_ret
  exact ⟨rfl, K2.out⟩
def LargeRes (w : World) (e : Ending) (w' : World) : Prop := ∃ b : Bool, e = .returned (.bool b) ∧ Chg (fun _ => False) w w'
set_option maxRecDepth 100000 in
theorem large15_any (w : World) (c : BCert) (sa : Option Addr) (sc : Nat) (G : Nat → Prop) (hc : CertAt w (.slice sa c.fr.length sc) G c) :
    Calls Tryz.prog 8 #[certV c (.slice sa c.fr.length sc)] w (LargeRes w) := by
  obtain ⟨kind, sg, sp, fr, f, t, n⟩ := c
  unfold certV
  have hsp := hc.sp
  simp only at hc hsp ⊢
  have k0 := chg_alloc (fun _ => False) w (.cells #[.int .i64 kind, .int .u16 (sg : Int), .string sp, .slice sa fr.length sc, .int .i64 f, .int .i64 t, .int .i64 n] 34)
  have o1 := obj_alloc_new w (.cells #[.int .i64 kind, .int .u16 (sg : Int), .string sp, .slice sa fr.length sc, .int .i64 f, .int .i64 t, .int .i64 n] 34)
  have HV := Lib.hid (hc.set.at_.chg k0 (fun _ _ e => e))
  have K0 := Lib.hid k0
  have O1 := Lib.hid o1
  obtain ⟨_, _, e, hl0, _⟩ := hc.set.at_
  cases e
  unfold maxLen at hl0 hsp
  have c2 := cell_of (o := 2) o1 rfl
  have c3 := cell_of (o := 3) o1 rfl
  clear hc k0 o1
  go_enter Tryz.func8, Tryz.ntmps8
  by_cases h1 : 30 < fr.length
  · have g1 : decide (30 < (fr.length : Int)) = true := decide_eq_true (by omega)
    have g2 : decide (30 < fr.length) = true := decide_eq_true h1
    go_wp2
    go_ret
    exact ⟨true, rfl, K0.out⟩
  have g1 : decide (30 < (fr.length : Int)) = false := decide_eq_false (by omega)
  have g2 : decide (30 < fr.length) = false := decide_eq_false h1
  by_cases h2 : 100 < sp.size
  · have g3 : decide (100 < (sp.size : Int)) = true := decide_eq_true (by omega)
    have g4 : decide (100 < sp.size) = true := decide_eq_true h2
    go_wp2
    go_ret
    exact ⟨true, rfl, K0.out⟩
  have g3 : decide (100 < (sp.size : Int)) = false := decide_eq_false (by omega)
  have g4 : decide (100 < sp.size) = false := decide_eq_false h2
  go_wp2_with fail
  generalize w.alloc (.cells #[.int .i64 kind, .int .u16 (sg : Int), .string sp, .slice sa fr.length sc, .int .i64 f, .int .i64 t, .int .i64 n] 34) = wa at *
  go_loopw [17] (fun iv wr => ∃ k : Nat, k ≤ fr.length ∧ iv = .int .i64 k ∧ Hid (wr = wa)) (fun iv _ => fr.length - (intOf iv).toNat)
  case atStart => exact ⟨0, by omega, rfl, Lib.hid rfl⟩
  case round =>
    obtain ⟨k, hk, rfl, hw⟩ := hrel
    have hw := hw.out
    subst hw
    by_cases hlt : k < fr.length
    · obtain ⟨x, hx⟩ : ∃ x, fr[k]? = some x := ⟨_, List.getElem?_eq_getElem hlt⟩
      obtain ⟨_, _, e1, _, hcl⟩ := HV.out
      cases e1
      obtain ⟨lb, lo, rfl, _, c0, _⟩ := hcl k x hx
      clear hcl hx
      by_cases h3 : 100 < x.size
      · have g5 : decide (100 < (x.size : Int)) = true := decide_eq_true (by omega)
        have g6 : decide (100 < x.size) = true := decide_eq_true h3
        go_wp2
        go_ret
        exact ⟨true, rfl, K0.out⟩
      · have g5 : decide (100 < (x.size : Int)) = false := decide_eq_false (by omega)
        have g6 : decide (100 < x.size) = false := decide_eq_false h3
        go_wp2
        go_roundw
        case rel => exact ⟨k + 1, by omega, by go_num, Lib.hid (by first | trivial | rfl)⟩
        case measure => simp [intOf]; omega
    · obtain rfl : k = fr.length := by omega
      go_wp2
      go_ret
      exact ⟨false, rfl, K0.out⟩
set_option maxRecDepth 100000 in
theorem ints15_any (w : World) (a b : Option Addr) (p q : Nat) (l : List Nat) (base base' : Nat) (h1 : w.ownsRow base 3 1 (.slice a l.length p) l.length (ints l)) (h2 : w.ownsRow base' 3 1 (.slice b l.length q) l.length (ints l)) (hl : l.length ≤ 1000) :
    Calls Tryz.prog 11 #[.slice a l.length p, .slice b l.length q] w fun e w' => e = .returned (.bool true) ∧ Chg (fun _ => False) w w' := by
  have H1 := Lib.hid h1
  have H2 := Lib.hid h2
  clear h1 h2
  go_enter Tryz.func11, Tryz.ntmps11
  go_wp2_with fail
  go_loopw [13] (fun iv wr => ∃ k : Nat, k ≤ l.length ∧ iv = .int .i64 k ∧ Hid (Chg (fun _ => False) w wr)) (fun iv _ => l.length - (intOf iv).toNat)
  case atStart => exact ⟨0, by omega, rfl, Lib.hid (Chg.refl _ _)⟩
  case round =>
    obtain ⟨k, hk, rfl, HI⟩ := hrel
    by_cases hlt : k < l.length
    · obtain ⟨x, hx⟩ : ∃ x, l[k]? = some x := ⟨_, List.getElem?_eq_getElem hlt⟩
      have hx2 : (ints l)[k]? = some (.int .i64 (x : Int)) := by unfold ints; rw [List.getElem?_map, hx]; rfl
      obtain ⟨_, _, e1, _, hcl⟩ := own_get H1.out
      cases e1
      obtain ⟨_, _, e2, _, hcm⟩ := own_get H2.out
      cases e2
      obtain ⟨g, rfl, _, c0'⟩ := hcl k _ hx2
      obtain ⟨g', rfl, _, d0'⟩ := hcm k _ hx2
      have c0 : wr.drew.cell? ⟨g, k, none⟩ = some (.int .i64 (x : Int)) := cell_chg HI.out.drew (fun e => e) c0'
      have d0 : wr.drew.cell? ⟨g', k, none⟩ = some (.int .i64 (x : Int)) := cell_chg HI.out.drew (fun e => e) d0'
      have KD := Lib.hid HI.out.drew
      clear hcl hcm hx hx2 c0' d0' HI
      go_wp2_with fail
      refine wp_still_drew (by kernel_rfl) (by kernel_rfl) ?_
      repeat still_step
      refine wpStill_nil ?_
      go_wp2
      go_roundw
      case rel => exact ⟨k + 1, by omega, by go_num, Lib.hid KD.out⟩
      case measure => simp [intOf]; omega
    · obtain rfl : k = l.length := by omega
      go_wp2
      go_ret
      exact ⟨rfl, HI.out⟩
end Go.Proofs.YtdgmjablkdemmaaGreat

namespace Go.Proofs.YtdgmjablkdemmaaGreat
open Go.RowKit Go.Maps

end Go.Proofs.YtdgmjablkdemmaaGreat

namespace Go.Proofs.YtdgmjablkdemmaaGreat
open Go.RowKit Go.Maps

def ac (f t : Int) : BCert := ⟨2, 8193, atomW 8194, [atomW 8193], f, t, 0⟩
def MkRes (w : World) (f t : Int) (e : Ending) (w' : World) : Prop := ∃ g, e = .returned (certV (ac f t) (.slice (some ⟨g, 0, none⟩) 1 1)) ∧ CertAt w' (.slice (some ⟨g, 0, none⟩) 1 1) (fun k => k = g) (ac f t) ∧ w.heap.size ≤ g ∧ g < w'.heap.size ∧ Chg (fun _ => False) w w'
theorem mkRes_of {w W : World} {f t : Int} {g : Nat} (h : SetAt W (.slice (some ⟨g, 0, none⟩) 1 1) (fun k => k = g) [atomW 8193]) (hg : w.heap.size ≤ g) (hg2 : g < W.heap.size) (hc : Chg (fun _ => False) w W) (xb : ByteArray) (hx : xb = atomW 8194) :
    MkRes w f t (.returned (.agg #[.int .i64 2, .int .u16 8193, .string xb, .slice (some ⟨g, 0, none⟩) 1 1, .int .i64 f, .int .i64 t, .int .i64 0])) W := by
  subst hx
  exact ⟨g, rfl, ⟨h, by
    have : (atomW 8194).size = 2 := by decide +kernel
    show (atomW 8194).size ≤ maxLen
    rw [this]; decide, by show 8193 < 65536; decide⟩, hg, hg2, hc⟩
set_option maxHeartbeats 2000000 in
set_option maxRecDepth 100000 in
theorem mk_any (w : World) (f t : Int) : Calls Tryz.prog 37 #[.int .i64 f, .int .i64 t] w (MkRes w f t) := by
  obtain ⟨xa, hxa⟩ : ∃ xa, xa = atomW 8193 := ⟨_, rfl⟩
  obtain ⟨xb, hxb⟩ : ∃ xb, xb = atomW 8194 := ⟨_, rfl⟩
  have hxs : xa.size ≤ 100 := by rw [hxa]; decide +kernel
  have FIN := Lib.hid (fun (W : World) (g : Nat) (h : SetAt W (.slice (some ⟨g, 0, none⟩) 1 1) (fun k => k = g) [xa]) (hg : w.heap.size ≤ g) (hg2 : g < W.heap.size) (hc : Chg (fun _ => False) w W) => mkRes_of (f := f) (t := t) (by rw [← hxa]; exact h) hg hg2 hc xb hxb)
  have k0 := chg_alloc (fun _ => False) w (.cells #[.int .i64 0, .int .u16 0, .string ⟨#[]⟩, .slice none 0 0, .int .i64 0, .int .i64 0, .int .i64 0] 34)
  have OZ := Lib.hid (obj_alloc_new w (.cells #[.int .i64 0, .int .u16 0, .string ⟨#[]⟩, .slice none 0 0, .int .i64 0, .int .i64 0, .int .i64 0] 34))
  have K0 := Lib.hid k0
  have hs0 : w.heap.size < (w.alloc (.cells #[.int .i64 0, .int .u16 0, .string ⟨#[]⟩, .slice none 0 0, .int .i64 0, .int .i64 0, .int .i64 0] 34)).heap.size := by rw [World.size_alloc]; omega
  have OFB := Lib.hid (fun w => of_one w 8194 8194 rfl xb (by decide) hxb.symm)
  have OFA := Lib.hid (fun w => of_one w 8193 8193 rfl xa (by decide) hxa.symm)
  clear k0 hxa hxb
  go_enter Tryz.func37, Tryz.ntmps37
  go_wp2_with fail
  have O1 := OFB.out (w.alloc (.cells #[.int .i64 0, .int .u16 0, .string ⟨#[]⟩, .slice none 0 0, .int .i64 0, .int .i64 0, .int .i64 0] 34))
  rw [World.size_alloc] at O1
  generalize w.alloc (.cells #[.int .i64 0, .int .u16 0, .string ⟨#[]⟩, .slice none 0 0, .int .i64 0, .int .i64 0, .int .i64 0] 34) = wz at *
  (with_reducible refine (O1).mono ?_)
  rintro e w2 ⟨rfl, k2⟩
  have OZ2 := Lib.hid (k2.obj (fun e => e) OZ.out)
  have K2 := Lib.hid (K0.out.trans k2)
  have hs2 : w.heap.size < w2.heap.size := Nat.lt_of_lt_of_le hs0 k2.size
  clear O1 OFB k2 OZ K0
  go_wp2_with fail
  have O1 := OFA.out w2
  (with_reducible refine (O1).mono ?_)
  rintro e w3 ⟨rfl, k2⟩
  have OZ3 := Lib.hid (k2.obj (fun e => e) OZ2.out)
  have K3 := Lib.hid (K2.out.trans k2)
  have hs3 : w.heap.size < w3.heap.size := Nat.lt_of_lt_of_le hs2 k2.size
  clear O1 OFA k2 OZ2 K2
  have q := OZ3.out
  have Q := Lib.hid q
  have ka := chg_alloc (fun _ => False) w3 (.cells #[.string xa] 23)
  have SL := setAt_l1 w3 xa hxs
  have qa := ka.obj (fun e => e) q
  have K5 := Lib.hid (K3.out.trans ka)
  have SL := Lib.hid SL
  have QA := Lib.hid qa
  have hs5 : w3.heap.size < (w3.alloc (.cells #[.string xa] 23)).heap.size := by rw [World.size_alloc]; omega
  clear q ka qa
  go_wp2_with (refine wpList_store_all rfl 34 (.tmp 4) (.tmp 12) rfl w.heap.size rfl (.agg #[.int .i64 2, .int .u16 8193, .string xb, .slice (some ⟨w3.heap.size, 0, none⟩) 1 1, .int .i64 f, .int .i64 t, .int .i64 0]) rfl ?s1 #[.int .i64 0, .int .u16 0, .string ⟨#[]⟩, .slice none 0 0, .int .i64 0, .int .i64 0, .int .i64 0] 34 QA.out rfl Tryz.sizeCert ?s4)
  case s1 =>
    intro u hu
    have : u ∈ [Value.int .i64 2, .int .u16 8193, .string xb, .slice (some ⟨w3.heap.size, 0, none⟩) 1 1, .int .i64 f, .int .i64 t, .int .i64 0] := hu
    simp at this
    rcases this with rfl | rfl | rfl | rfl | rfl | rfl | rfl <;> rfl
  intro W oc k4
  have SLW := SL.out.chg k4 (fun k hk e => by omega)
  have KW := K5.out.next k4 (fun k hk e => by omega)
  have hsw := Nat.lt_of_lt_of_le hs5 k4.size
  have z0 : W.cell? ⟨w.heap.size, 0, none⟩ = some (.int .i64 2) := cell_of oc rfl
  have z1 : W.cell? ⟨w.heap.size, 1, none⟩ = some (.int .u16 8193) := cell_of oc rfl
  have z2 : W.cell? ⟨w.heap.size, 2, none⟩ = some (.string xb) := cell_of oc rfl
  have z3 : W.cell? ⟨w.heap.size, 3, none⟩ = some (.slice (some ⟨w3.heap.size, 0, none⟩) 1 1) := cell_of oc rfl
  have z4 : W.cell? ⟨w.heap.size, 4, none⟩ = some (.int .i64 f) := cell_of oc rfl
  have z5 : W.cell? ⟨w.heap.size, 5, none⟩ = some (.int .i64 t) := cell_of oc rfl
  have z6 : W.cell? ⟨w.heap.size, 6, none⟩ = some (.int .i64 0) := cell_of oc rfl
  clear k4 oc
  go_wp2
  refine bodyPost_ret (v := .agg #[.int .i64 2, .int .u16 8193, .string xb, .slice (some ⟨w3.heap.size, 0, none⟩) 1 1, .int .i64 f, .int .i64 t, .int .i64 0]) (by simp [results, Tryz.results37, go_sem, z0, z1, z2, z3, z4, z5, z6]) rfl ?_
  exact FIN.out W w3.heap.size SLW (by omega) hsw KW
end Go.Proofs.YtdgmjablkdemmaaGreat

namespace Go.Proofs.YtdgmjablkdemmaaGreat
open Go.RowKit Go.Maps

theorem numOf_eq {s : PStore} (h : PInv s) {c : BCert} (hc : certB c = true) : s.numOf (certE c) = (s.certs.find? (fun p => decide (p.2 = c))).map (·.1) := by
  cases hf : s.certs.find? (fun p => decide (p.2 = c)) with
  | none =>
    cases hn : s.numOf (certE c) with
    | none => rfl
    | some i =>
      obtain ⟨d, hd, hm⟩ := numOf_some hn
      have := certE_inj (h.ok _ hm) hc hd
      have hq := List.find?_eq_none.1 hf _ hm
      exact absurd (decide_eq_true this) hq
  | some p =>
    have h1 := List.find?_some hf
    have h2 := List.mem_of_find?_eq_some hf
    have h3 := of_decide_eq_true h1
    rw [← h3, h.numOf_mem h2]; rfl
theorem ac05 : certB (ac 0 5) = true := by decide +kernel
theorem ac39 : certB (ac 3 9) = true := by decide +kernel
theorem ac44 : certB (ac 4 4) = true := by decide +kernel
theorem acz : certB zeroC = false := by decide +kernel
def as1 : PStore := (newS 2).plus (ac 0 5)
def as2 : PStore := as1.plus (ac 3 9)
def as3 : PStore := ⟨2, 2, 3, [(1, ac 3 9)]⟩
theorem as0_inv : PInv (newS 2) := newS_inv (by decide) (by decide)
theorem aput1 : putS (newS 2) (ac 0 5) = (0, 0, as1) := putS_new ac05 rfl (by decide)
theorem as1_inv : PInv as1 := by
  have := as0_inv.putS (ac 0 5)
  rwa [aput1] at this
theorem aput2 : putS as1 (ac 3 9) = (1, 0, as2) := putS_new ac39 (by rw [numOf_eq as1_inv ac39]; decide +kernel) (by decide)
theorem as2_inv : PInv as2 := by
  have := as1_inv.putS (ac 3 9)
  rwa [aput2] at this
theorem aput3 : putS as2 (ac 0 5) = (0, 0, as2) := putS_had ac05 (by rw [numOf_eq as2_inv ac05]; decide +kernel)
theorem aput4 : putS as2 (ac 4 4) = (0, 3, as2) := putS_full ac44 (by rw [numOf_eq as2_inv ac44]; decide +kernel) (by decide)
theorem aput5 : putS as2 zeroC = (0, 2, as2) := putS_bad acz
theorem anext {n : Int} {is : Bool} (h : Best (Borders as2) 3 n is) : n = 6 ∧ is = true := by
  have h6 : Borders as2 6 := ⟨(0, ac 0 5), by decide +kernel, .inr rfl⟩
  obtain ⟨h1, h2⟩ := h.all 6 h6 (by decide)
  obtain ⟨h3, q, hq, h4⟩ := h.yes h1
  have : q = (0, ac 0 5) ∨ q = (1, ac 3 9) := by
    have : q ∈ [(0, ac 0 5), (1, ac 3 9)] := hq
    simpa using this
  refine ⟨?_, h1⟩
  rcases this with rfl | rfl
  · rcases h4 with h4 | h4
    · have : (ac 0 5).f = 0 := rfl
      simp only at h4; omega
    · have : (ac 0 5).t = 5 := rfl
      simp only at h4; omega
  · rcases h4 with h4 | h4
    · have : (ac 3 9).f = 3 := rfl
      simp only at h4; omega
    · have : (ac 3 9).t = 9 := rfl
      simp only at h4; omega
theorem aabout : as2.about (atomW 8193) = [0, 1] := by decide +kernel
theorem agone : as2.gone 6 = [0] := by decide +kernel
theorem asweep : sweepS as2 6 = as3 := by
  unfold sweepS
  rw [agone]
  have : as2.certs.filter (fun p => decide (6 ≤ p.2.t)) = [(1, ac 3 9)] := by decide +kernel
  rw [this]; rfl
theorem avalid : as3.which (fun c => holdsB c 6) = [1] := by decide +kernel
theorem acerts : as3.certsOf [1] = [ac 3 9] := by decide +kernel
theorem aget : as3.get 0 = none := by decide +kernel
/-- Put, its answer told. -/
theorem sput_at (w : World) (b : Nat) (B : Nat → Prop) (s s' : PStore) (c : BCert) (sa : Option Addr) (sn sc : Nat) (G : Nat → Prop) (i e : Nat) (z y : Int) (hz : z = (i : Int)) (hy : y = (e : Int)) (hsn : sn = c.fr.length) (hp : putS s c = (i, e, s')) (h : StoreAt w b B s) (hc : CertAt w (.slice sa c.fr.length sc) G c) (hG : ∀ k, G k → k < w.heap.size ∧ ¬ B k) (hn : s.next ≤ 1000000) (ht : s.turn ≤ 1000000) :
    Calls Tryz.prog 9 #[.pointer (some ⟨b, 0, none⟩), certV c (.slice sa sn sc)] w fun e w' => ∃ B', e = .returned (.tuple #[.int .i64 z, .int .i64 y]) ∧ StoreAt w' b B' s' ∧ Chg B w w' ∧ ∀ k, B' k → B k ∨ w.heap.size ≤ k := by
  subst hsn hz hy
  have := sput_any w b B s c sa sc G h hc hG hn ht
  rw [hp] at this
  exact this
end Go.Proofs.YtdgmjablkdemmaaGreat
