/-
  ProofSound, walked.
  No proof is right of what isn't so.
-/
import Derived.Test.YtjifdfhibkipnaaGreatQPArg
import Derived.Test.YtjifdfhibkipnaaGreatDRun
import Derived.SizedLaws
namespace Go.Proofs.YtjifdfhibkipnaaGreat
open Go.RowKit Go.Maps

set_option maxRecDepth 100000 in
theorem refused13_any (w : World) (c : BCert) (sa : Option Addr) (sc : Nat) (Gc : Nat → Prop) (hc : CertAt w (.slice sa c.fr.length sc) Gc c) (hsz : c.sp.size ≤ 140737488355328) (hfs : Sizes c.fr) :
    Calls Tryz.prog 24 #[certV c (.slice sa c.fr.length sc)] w fun e w' => ∃ b : Bool, e = .returned (.bool b) ∧ Chg (fun _ => False) w w' := by
  have kb := chg_alloc (fun _ => False) w (.cells #[.int .i64 c.kind, .int .u16 (c.sg : Int), .string c.sp, .slice sa c.fr.length sc, .int .i64 c.f, .int .i64 c.t, .int .i64 c.n] 60)
  have ob := obj_alloc_new w (.cells #[.int .i64 c.kind, .int .u16 (c.sg : Int), .string c.sp, .slice sa c.fr.length sc, .int .i64 c.f, .int .i64 c.t, .int .i64 c.n] 60)
  have BK : Calls Tryz.prog 50 #[.slice none 0 0, certV c (.slice sa c.fr.length sc), .int .i64 1] (w.alloc (.cells #[.int .i64 c.kind, .int .u16 (c.sg : Int), .string c.sp, .slice sa c.fr.length sc, .int .i64 c.f, .int .i64 c.t, .int .i64 c.n] 60)) (BackedRes _ (backedE [] 1 c)) := rback12_any (w.alloc (.cells #[.int .i64 c.kind, .int .u16 (c.sg : Int), .string c.sp, .slice sa c.fr.length sc, .int .i64 c.f, .int .i64 c.t, .int .i64 c.n] 60)) none [] 0 1 c sa sc Gc ⟨none, 0, rfl, by simp, fun j r hj => by simp at hj⟩ (.inl ⟨by simp, fun r hr => by cases hr⟩) (fun r hr => by cases hr) (hc.chg kb (fun _ _ e => e)) hsz hfs
  unfold certV BackedRes at BK
  generalize backedE [] 1 c = q at BK
  have BK := Lib.hid BK
  have KB := Lib.hid kb
  have r0 := cell_of (o := 0) ob rfl
  have r1 := cell_of (o := 1) ob rfl
  have r2 := cell_of (o := 2) ob rfl
  have r3 := cell_of (o := 3) ob rfl
  have r4 := cell_of (o := 4) ob rfl
  have r5 := cell_of (o := 5) ob rfl
  have r6 := cell_of (o := 6) ob rfl
  unfold certV
  obtain ⟨ck, sg, sp, fr, cf, ct, cn⟩ := c
  simp only at BK KB r0 r1 r2 r3 r4 r5 r6 ⊢
  clear kb ob hc hsz hfs
  go_enter Tryz.func24, Tryz.ntmps24
  go_wp2_with fail
  clear r0 r1 r2 r3 r4 r5 r6
  (with_reducible refine (BK.out).mono ?_)
  rintro e w2 ⟨rfl, k2⟩
  have K2 := Lib.hid (KB.out.trans k2)
  clear BK k2 KB
  go_wp2
  go_ret
  exact ⟨_, rfl, K2.out⟩
set_option maxHeartbeats 8000000 in
set_option maxRecDepth 100000 in
theorem sound_law (w : World) (v u t : Value) (x y : ByteArray) (n : Int) (R : List BRul) (P : List (BCert × Value)) (p : BProof) (_ : x.size ≤ maxLen) (_ : y.size ≤ maxLen) (hv : RulesArg w v R) (hrf : RulesFit R) (hca : CertsArg w u P) (_ : CertsFit P) (hp : ProofArg w t p) :
    Calls Tryz.prog 7 #[v, u, t, .string x, .string y, .int .i64 n] w fun e w' => e = .returned (.bool true) ∧ Chg (fun _ => False) w w' := by
  have hu := hca.at_
  obtain ⟨ra, rc, rfl, hl0, _⟩ := hv.at_
  have HV := Lib.hid hv
  have HU := Lib.hid hu
  have HRF := Lib.hid hrf
  obtain ⟨la, cap, rfl, hu0, _⟩ := hu
  obtain ⟨ia, ic, sa, sc, rfl, hpa, hfit⟩ := hp
  have HP := Lib.hid hpa
  have LG := Lib.hid (fun w0 w1 (k : Chg (fun _ => False) w w0) (k2 : Chg (fun _ => False) w0 w1) lv L h hL => large13_any w0 w1 ra R rc _ P n lv L ((HV.out.at_.chg k (fun _ _ e => e)).imp (fun j hj => Nat.lt_of_lt_of_le hj k.size)) ((HU.out.chg k (fun _ _ e => e)).up (fun j hj => Nat.lt_of_lt_of_le hj k.size)) h k2 hL)
  have LO := Lib.hid (fun w1 (k : Chg (fun _ => False) w w1) => long13_any w1 _ _ _ p (HP.out.later k (fun _ e => e.elim)))
  have kb := chg_alloc (fun _ => False) w (.cells #[.slice ia p.items.length ic, .slice sa p.steps.length sc] 30)
  have ob := obj_alloc_new w (.cells #[.slice ia p.items.length ic, .slice sa p.steps.length sc] 30)
  have F7 := Lib.hid (fun (W : World) (k : Chg (fun _ => False) (w.alloc (.cells #[.slice ia p.items.length ic, .slice sa p.steps.length sc] 30)) W) => And.intro (show W.cell? ⟨w.heap.size, 0, none⟩ = some (.slice ia p.items.length ic) from cell_of (o := 0) (k.obj (fun e => e) ob) rfl) (show W.cell? ⟨w.heap.size, 1, none⟩ = some (.slice sa p.steps.length sc) from cell_of (o := 1) (k.obj (fun e => e) ob) rfl))
  have KB := Lib.hid kb
  clear hv hl0 hu0 hca hpa hfit kb ob hrf
  go_enter Tryz.func7, Tryz.ntmps7
  go_wp2_with fail
  generalize w.alloc (.cells #[.slice ia p.items.length ic, .slice sa p.steps.length sc] 30) = wb at *
  obtain ⟨b7, hb7⟩ : ∃ b7, b7 = w.heap.size := ⟨_, rfl⟩
  rw [← hb7] at F7
  rw [← hb7]
  clear hb7
  have AW := Lib.hid (awake13_any wb)
  (with_reducible refine (AW.out).mono ?_)
  rintro e w1 ⟨rfl, k1⟩
  have E1 := Lib.hid k1
  have kl := chg_alloc (fun _ => False) w1 (.cells #[.string x, .string y] 24)
  have L1 := Lib.hid (LG.out w1 _ (KB.out.trans k1) kl _ [x, y] (own_two w1 x y) (by simp))
  clear AW LG k1 kl
  go_wp2_with fail
  generalize w1.alloc (.cells #[.string x, .string y] 24) = w2 at *
  (with_reducible refine (L1.out).mono ?_)
  rintro e w3 ⟨lg, rfl, k3, hlg⟩
  have E3 := Lib.hid (E1.out.trans k3)
  clear L1 k3 E1
  obtain ⟨q0, q1⟩ := F7.out _ E3.out
  cases lg with
  | true =>
    go_wp2
    go_ret
    exact ⟨rfl, KB.out.trans E3.out⟩
  | false =>
  have FIT := Lib.hid (hlg rfl)
  clear hlg
  have L2 := Lib.hid (LO.out w3 (KB.out.trans E3.out))
  clear LO
  go_wp2_with fail
  (with_reducible refine (L2.out).mono ?_)
  rintro e w4 ⟨lo, rfl, k4, hlo⟩
  have E4 := Lib.hid (E3.out.trans k4)
  clear L2 k4 E3 q0 q1
  obtain ⟨q0, q1⟩ := F7.out _ E4.out
  cases lo with
  | true =>
    go_wp2
    go_ret
    exact ⟨rfl, KB.out.trans E4.out⟩
  | false =>
  have SH := Lib.hid (hlo rfl)
  clear hlo
  have hx1 : x.size ≤ 140737488355328 := by have := FIT.out.more x (by simp); omega
  have hxs : x.size ≤ maxLen := by have := FIT.out.more x (by simp); unfold maxLen; omega
  have hcs : ∀ c ∈ certsOf P, c.sp.size ≤ 140737488355328 ∧ Sizes c.fr := fun c hc => ⟨by have := (FIT.out.cert c hc).1; omega, fun z hz => by have := (FIT.out.cert c hc).2.2 z hz; omega⟩
  obtain ⟨s1, s2, s3⟩ := SH.out.sizes
  have il : p.items.length ≤ 1000 := s1
  have CK1 := Lib.hid (show Calls Tryz.prog 17 #[.slice ra R.length rc, .slice la P.length cap, .agg #[.slice ia p.items.length ic, .slice sa p.steps.length sc], .string x, .string y] w4 (fun e w' => e = .returned (.int .i64 (check13 R (certsOf P) p x y)) ∧ Chg (fun _ => False) w4 w') from by
    obtain ⟨a1, a2, a3, a4⟩ := FIT.out.args HV.out HU.out rfl (KB.out.trans E4.out)
    exact check_any13 w4 ra R rc _ _ _ P p x y a1 a2 (by have := FIT.out.rules; omega) a3 (by omega) (HP.out.later (KB.out.trans E4.out) (fun _ e => e.elim)) s1 hxs)
  by_cases hck : check13 R (certsOf P) p x y = 0
  rotate_left
  · as_aux_lemma =>
    have g1 : (check13 R (certsOf P) p x y != 0) = true := by rw [bne_iff_ne]; exact hck
    generalize check13 R (certsOf P) p x y = cr at *
    clear hck hcs
    go_wp2_with fail
    (with_reducible refine (CK1.out).mono ?_)
    rintro e w5 ⟨rfl, k5⟩
    have E5 := Lib.hid (E4.out.trans k5)
    clear k5 CK1
    go_wp2
    go_ret
    exact ⟨rfl, KB.out.trans E5.out⟩
  have RT := Lib.hid (check_zero.1 hck)
  rw [hck] at CK1
  have RUNA := Lib.hid (fun (W : World) (k : Chg (fun _ => False) w W) => FIT.out.run HV.out HRF.out HU.out k)
  have HCS := Lib.hid hcs
  have HCQ := Lib.hid (fun (k : Nat) q (hq : P[k]? = some q) => hcs q.1 (List.mem_of_getElem? (certsOf_get hq)))
  have SZR := Lib.hid (show ∀ r ∈ R, r.1.size ≤ 400 ∧ r.2.size ≤ maxLen from fun r hr => ⟨by have := (FIT.out.word r hr).1; omega, by have := (FIT.out.word r hr).2; unfold maxLen; omega⟩)
  have hP8 : P.length ≤ 8 := by have := FIT.out.certs; rwa [certsOf_length] at this
  have RT2 := Lib.hid (fun s (h : acceptE R (certsOf P) n = .ok s) => right_sound h RT.out)
  have POS := Lib.hid (fun (k : Nat) (z : BItem) (hz : p.items[k]? = some z) => show 0 ≤ z.cert from (RT.out.cutOk.cert hz).1)
  clear hck hcs s1 s2 s3 FIT RT
  go_wp2_with fail
  (with_reducible refine (CK1.out).mono ?_)
  rintro e w5 ⟨rfl, k5⟩
  have E5 := Lib.hid (E4.out.trans k5)
  clear k5 CK1 q0 q1 E4
  go_wp2
  go_loopw [44] (fun iv wr => ∃ k : Nat, k ≤ P.length ∧ iv = .int .i64 k ∧ Hid (Chg (fun _ => False) w5 wr)) (fun iv _ => P.length - (intOf iv).toNat)
  case atStart => exact ⟨0, by omega, rfl, Lib.hid (Chg.refl _ _)⟩
  case round =>
    obtain ⟨k, hk, rfl, KC⟩ := hrel
    by_cases hlt : k < P.length
    · as_aux_lemma =>
      have g1 : decide ((k : Int) < (P.length : Int)) = true := decide_eq_true (by omega)
      have g1' : decide (k < P.length) = true := decide_eq_true hlt
      have hkn : (k : Int) < (P.length : Int) := by omega
      obtain ⟨pq, hpq⟩ : ∃ pq, P[k]? = some pq := ⟨_, List.getElem?_eq_getElem hlt⟩
      have KW := Lib.hid (KB.out.trans (E5.out.trans KC.out))
      have CQ := Lib.hid (HCQ.out k pq hpq)
      obtain ⟨_, _, e1, _, hcv⟩ := HU.out.chg KW.out (fun _ _ e => e)
      cases e1
      obtain ⟨cg, co, ca, ccp, rfl, hcg, ecv, cw0, cw1, cw2, cw3, cw4, cw5, cw6, hca⟩ := hcv k pq hpq
      obtain ⟨⟨ck, sg, sp, fr, cf, ct, cn⟩, cv⟩ := pq
      simp only at cw0 cw1 cw2 cw3 cw4 cw5 cw6 ecv CQ hca
      have RF := refused13_any wr ⟨ck, sg, sp, fr, cf, ct, cn⟩ ca ccp _ hca CQ.out.1 CQ.out.2
      unfold certV at RF
      have RF := Lib.hid RF
      clear hcv hca ecv hpq
      go_wp2_with fail
      (with_reducible refine (RF.out).mono ?_)
      rintro e w6 ⟨b, rfl, k6⟩
      have K6 := Lib.hid (KC.out.trans k6)
      clear RF k6 cw0 cw1 cw2 cw3 cw4 cw5 cw6
      cases b with
      | true =>
        go_wp2
        go_ret
        exact ⟨rfl, KB.out.trans (E5.out.trans K6.out)⟩
      | false =>
        go_wp2
        go_roundw
        case rel => exact ⟨k + 1, by omega, by go_num, K6⟩
        case measure => simp [intOf]; omega
    · obtain rfl : k = P.length := by omega
      have g1 : decide ((P.length : Int) < (P.length : Int)) = false := decide_eq_false (by omega)
      have g1' : decide (P.length < P.length) = false := decide_eq_false (by omega)
      have E6 := Lib.hid (E5.out.trans KC.out)
      have RA := RUNA.out wr (KB.out.trans E6.out)
      clear KC E5
      cases hacc : acceptE R (certsOf P) n with
      | error kk =>
        as_aux_lemma =>
        have RUN := Lib.hid ((rrun12_any wr ra R rc _ P n _ RA.rules RA.nil RA.many RA.size RA.certs RA.few HRF.out.1 HCS.out).mono fun e w' ⟨hc, hr⟩ => show RunErr wr kk e w' from by
          rcases hr with ⟨j, hj, hk, he⟩ | ⟨t, oa, va, oc, vc, ht, he, h1, h2⟩
          · rw [hacc] at hk; cases hk
            exact ⟨hj, he, hc⟩
          · rw [hacc] at ht; cases ht)
        clear RA hacc
        go_wp2_with fail
        (with_reducible refine (RUN.out).mono ?_)
        rintro e w7 ⟨hk0, rfl, k7⟩
        have g2 : (kk != 0) = true := by rw [bne_iff_ne]; exact hk0
        have K8 := Lib.hid (KB.out.trans (E6.out.trans (k7.trans (chg_alloc (fun _ => False) w7 (.cells #[.slice none 0 0, .slice none 0 0] 50)))))
        clear RUN k7 hk0
        go_wp2
        go_ret
        exact ⟨rfl, K8.out⟩
      | ok s =>
        as_aux_lemma =>
        have RUN := Lib.hid ((rrun12_any wr ra R rc _ P n _ RA.rules RA.nil RA.many RA.size RA.certs RA.few HRF.out.1 HCS.out).mono fun e w' ⟨hc, hr⟩ => show RunOk wr s e w' from by
          rcases hr with ⟨k, _, hk, _⟩ | ⟨t, oa, va, oc, vc, ht, he, h1, h2⟩
          · rw [hacc] at hk; cases hk
          · rw [hacc] at ht; cases ht
            exact ⟨oa, va, oc, vc, he, h1, h2, hc⟩)
        obtain ⟨rs1, rs2⟩ := RT2.out s hacc
        have HAS := Lib.hid (fun (k : Nat) (z : BItem) (hz : p.items[k]? = some z) => And.intro (rs1 z (List.mem_of_getElem? hz)) (POS.out k z hz))
        have TB := Lib.hid rs2
        have FEW := Lib.hid (RunOk.few hacc SZR.out)
        have F47 := Lib.hid (AInv.fit47 (accept_fin hacc).1.inv HRF.out.1 HCS.out)
        clear RA hacc rs1 rs2
        go_wp2_with fail
        (with_reducible refine (RUN.out).mono ?_)
        rintro e w8 ⟨oa, va, oc, vc, rfl, hoo, hor, k8⟩
        have kr := chg_alloc (fun _ => False) w8 (.cells #[.slice oa s.order.length oc, .slice va s.rules.length vc] 50)
        have or := obj_alloc_new w8 (.cells #[.slice oa s.order.length oc, .slice va s.rules.length vc] 50)
        have OO := Lib.hid (own_chg hoo kr (fun _ _ e => e))
        have RO := Lib.hid (own_chg hor kr (fun _ _ e => e))
        have ORH := Lib.hid or
        have E9 := Lib.hid ((E6.out.trans k8).trans kr)
        clear RUN k8 hoo hor kr or E6
        go_upto_region 14 with fail
        generalize w8.alloc (.cells #[.slice oa s.order.length oc, .slice va s.rules.length vc] 50) = w9 at *
        generalize w8.heap.size = b8 at *
        obtain ⟨c0, c1⟩ := F7.out w9 E9.out
        go_wp2
        clear c0 c1
        go_loopw [65] (fun iv wr => ∃ k : Nat, k ≤ p.items.length ∧ iv = .int .i64 k ∧ Hid (Chg (fun _ => False) w9 wr)) (fun iv _ => p.items.length - (intOf iv).toNat)
        case atStart => exact ⟨0, by omega, rfl, Lib.hid (Chg.refl _ _)⟩
        case round =>
          obtain ⟨k, hk, rfl, KC⟩ := hrel
          by_cases hlt : k < p.items.length
          · as_aux_lemma =>
            have g1 : decide ((k : Int) < (p.items.length : Int)) = true := decide_eq_true (by omega)
            have g1' : decide (k < p.items.length) = true := decide_eq_true hlt
            obtain ⟨z, hz⟩ : ∃ z, p.items[k]? = some z := ⟨_, List.getElem?_eq_getElem hlt⟩
            obtain ⟨_, _, e1, _, hcl⟩ := (HP.out.later (KB.out.trans (E9.out.trans KC.out)) (fun _ e => e.elim)).items
            cases e1
            obtain ⟨lb, lo, pv, rfl, _, j0, j1, hpv⟩ := hcl k _ hz
            obtain ⟨pa, pc, rfl⟩ := hpv.shape
            clear hpv
            obtain ⟨hh1, hh2⟩ := HAS.out k z hz
            obtain ⟨cert, paths⟩ := z
            simp only at j0 j1 hh1 hh2
            obtain ⟨c, rfl⟩ : ∃ c : Nat, cert = (c : Int) := ⟨cert.toNat, by omega⟩
            rw [Int.toNat_natCast] at hh1
            have kx := chg_alloc (fun _ => False) wr (.cells #[.int .i64 (c : Int), .slice pa paths.length pc] 43)
            have ox := obj_alloc_new wr (.cells #[.int .i64 (c : Int), .slice pa paths.length pc] 43)
            have HC := has12_own (va := va) (vn := s.rules.length) (vc := vc) (own_chg OO.out (KC.out.trans kx) (fun _ _ e => e)) c (c : Int) rfl
            rw [decide_eq_true hh1] at HC
            have HC := Lib.hid HC
            have o9 := (KC.out.trans kx).obj (fun e => e) ORH.out
            have r0 := cell_of (o := 0) o9 rfl
            have r1 := cell_of (o := 1) o9 rfl
            have x0 := cell_of (o := 0) ox rfl
            have KX := Lib.hid (KC.out.trans kx)
            clear hcl hz kx ox o9 hh1 hh2
            go_wp2_with fail
            generalize wr.alloc (.cells #[.int .i64 (c : Int), .slice pa paths.length pc] 43) = wx at *
            (with_reducible refine (HC.out).mono ?_)
            rintro e w10 ⟨rfl, k10⟩
            have K10 := Lib.hid (KX.out.trans k10)
            clear HC k10 r0 r1 x0 j0 j1
            go_wp2
            go_roundw
            case rel => exact ⟨k + 1, by omega, by go_num, K10⟩
            case measure => simp [intOf]; omega
          · as_aux_lemma =>
            obtain rfl : k = p.items.length := by omega
            have g1 : decide ((p.items.length : Int) < (p.items.length : Int)) = false := decide_eq_false (by omega)
            have g1' : decide (p.items.length < p.items.length) = false := decide_eq_false (by omega)
            have r1 := cell_of (o := 1) (KC.out.obj (fun e => e) ORH.out) rfl
            have LD := Lib.hid (rleads_any (w := wr) (v := .slice va s.rules.length vc) (R := s.rules) (s := x) (b := n) ⟨rulesAt_own (own_chg RO.out KC.out (fun _ _ e => e)) (fun r hr => ⟨by have := (FEW.out.2 r hr).1; unfold maxLen; omega, (FEW.out.2 r hr).2⟩), .inl ⟨FEW.out.1, fun r hr => (FEW.out.2 r hr).1⟩, hxs⟩ F47.out hx1 y)
            have EK := Lib.hid (E9.out.trans KC.out)
            go_wp2_with fail
            clear r1
            (with_reducible refine (LD.out).mono ?_)
            rintro e w11 ⟨rfl, k11⟩
            have K11 := Lib.hid (KB.out.trans (EK.out.trans k11))
            clear LD k11
            by_cases hre : rowErr s.rules x n = 0
            · have hb := TB.out hre
              rw [hb, hre]
              clear hre hb
              go_wp2
              go_ret
              exact ⟨rfl, K11.out⟩
            · have g3 : (rowErr s.rules x n != 0) = true := by rw [bne_iff_ne]; exact hre
              generalize rowErr s.rules x n = re at *
              generalize tellB s.rules x y n = tb at *
              clear hre
              go_wp2
              go_ret
              exact ⟨rfl, K11.out⟩
end Go.Proofs.YtjifdfhibkipnaaGreat

namespace Go.Proofs.YtjifdfhibkipnaaGreat.ProofSoundP
open Go.ChangeShapes Go.WideShapes Go.ChangeAt Go.RowKit

set_option maxRecDepth 100000 in
theorem lifted (os : Os) (started : os.Started) (H : Type) (enc : TypeId × Value → H) :
    ReturnsInHanded {} Tryz.checked os 7 .any (Rows.proofSoundSpec.pre6 enc Tryz.prog Tryz.f7 Rows.proofSoundRow.domain false) (Rows.proofSoundSpec.post enc Tryz.prog Tryz.f7 false true false false) := by
  refine returnsInHanded_of_change_sized (C := Tryz.checked) Tryz.own started (by kernel_rfl) Tryz.func7
    (ChangeSpec.witness6 (enc := enc) (C := Tryz.checked) false ⟨#[], #[.slice none 0 0, .slice none 0 0, .agg #[.slice none 0 0, .slice none 0 0], .string ⟨#[]⟩, .string ⟨#[]⟩, .int .i64 0], []⟩ 8 (by kernel_rfl) (by kernel_rfl) (by kernel_rfl) (by kernel_rfl)) ?_
  intro W base args ds gs before hval0 hW hcnd hsz _
  have hval : ∀ (j : Nat) t v, Tryz.f7.params[j]? = some t → args[j]? = some v → Value.okWide Tryz.prog W .any base t v := hval0
  have hW' := hW
  obtain ⟨p, q, hA0, hV, rfl, hfz, hnd⟩ := hW
  have hA : DataW.TrodAll enc Tryz.prog W 0 (fun _ => true) true Tryz.f7.params.toList args.toList ds p := hA0
  rw [Tryz.params7] at hA hval
  obtain ⟨v0, vs0, d0, ds0, p0, q0, hargs, rfl, rfl, h0, r0⟩ := trodAll_cons hA
  obtain ⟨v1, vs1, d1, ds1, p1, q1, rfl, rfl, rfl, h1, r1⟩ := trodAll_cons r0
  obtain ⟨v2, vs2, d2, ds2, p2, q2, rfl, rfl, rfl, h2, r2⟩ := trodAll_cons r1
  obtain ⟨v3, vs3, d3, ds3, p3, q3, rfl, rfl, rfl, h3, r3⟩ := trodAll_cons r2
  obtain ⟨v4, vs4, d4, ds4, p4, q4, rfl, rfl, rfl, h4, r4⟩ := trodAll_cons r3
  obtain ⟨v5, vs5, d5, ds5, p5, q5, rfl, rfl, rfl, h5, r5⟩ := trodAll_cons r4
  obtain ⟨rfl, rfl, rfl⟩ := trodAll_nil r5
  obtain rfl : args = #[v0, v1, v2, v3, v4, v5] := by cases args; simp_all
  obtain ⟨rfl, rfl⟩ := trodVars_none hV
  have lt0 : ∀ x ∈ p0, x.block < W.heap.size := by obtain ⟨m, hm⟩ := h0; exact DataW.trod_lt m _ _ _ hm
  have lt1 : ∀ x ∈ p1, x.block < W.heap.size := by obtain ⟨m, hm⟩ := h1; exact DataW.trod_lt m _ _ _ hm
  have lt2 : ∀ x ∈ p2, x.block < W.heap.size := by obtain ⟨m, hm⟩ := h2; exact DataW.trod_lt m _ _ _ hm
  have lt3 : ∀ x ∈ p3, x.block < W.heap.size := by obtain ⟨m, hm⟩ := h3; exact DataW.trod_lt m _ _ _ hm
  have lt4 : ∀ x ∈ p4, x.block < W.heap.size := by obtain ⟨m, hm⟩ := h4; exact DataW.trod_lt m _ _ _ hm
  have lt5 : ∀ x ∈ p5, x.block < W.heap.size := by obtain ⟨m, hm⟩ := h5; exact DataW.trod_lt m _ _ _ hm
  have k0 := h0
  have k1 := h1
  have k2 := h2
  have k3 := h3
  have k4 := h4
  have k5 := h5
  obtain ⟨a0, len0, cap0, rfl⟩ := okWide_slice Tryz.underlying22 (hval 0 22 v0 rfl rfl)
  obtain ⟨l0, hl0, hw0⟩ := rulesArg_of h0
  have hf0 := hw0 (fun x hx => by have := List.all_eq_true.1 hsz x (DataW.weights_mem_each (j := 0) rfl rfl x hx); simpa using this)
  obtain ⟨a1, len1, cap1, rfl⟩ := okWide_slice Tryz.underlying23 (hval 1 23 v1 rfl rfl)
  obtain ⟨l1, hl1, hw1⟩ := certsArg_of h1
  have hf1 := hw1 (fun x hx => by have := List.all_eq_true.1 hsz x (DataW.weights_mem_each (j := 1) rfl rfl x hx); simpa using this)
  obtain ⟨cs2, rfl, _⟩ := okWide_struct Tryz.underlying30 (hval 2 30 v2 rfl rfl)
  obtain ⟨l2, hl2⟩ := proofArg_of h2
  obtain ⟨s3, rfl, rfl, rfl, hs3⟩ := ChangeMaps.open_string Tryz.underlying24 (hval 3 24 v3 rfl rfl) h3
  obtain ⟨s4, rfl, rfl, rfl, hs4⟩ := ChangeMaps.open_string Tryz.underlying24 (hval 4 24 v4 rfl rfl) h4
  obtain ⟨n5, rfl, rfl, rfl, wn5⟩ := open_int Tryz.underlying3 (hval 5 3 v5 rfl rfl) h5
  clear hA0 hval0
  refine (sound_law W _ _ _ s3 s4 n5 l0 l1 l2 hs3 hs4 hl0 hf0 hl1 hf1 hl2).mono fun e W' ⟨he, hc⟩ => ?_
  subst he
  have bel : Below W.heap.size W W' := hc.below (fun _ _ e => e) (Nat.le_refl _)
  exact ⟨_, rfl, _, _, _, [], _, [], hW', trodAll_mk1 (shut_bool Tryz.underlying4 _), (trodAll_cons_mk (Below.trod Tryz.laidOut (by kernel_rfl) (of_decide_eq_true (by kernel_rfl)) k0 bel lt0) (trodAll_cons_mk (Below.trod Tryz.laidOut (by kernel_rfl) (of_decide_eq_true (by kernel_rfl)) k1 bel lt1) (trodAll_cons_mk (Below.trod Tryz.laidOut (by kernel_rfl) (of_decide_eq_true (by kernel_rfl)) k2 bel lt2) (trodAll_cons_mk (Below.trod Tryz.laidOut (by kernel_rfl) (of_decide_eq_true (by kernel_rfl)) k3 bel lt3) (trodAll_cons_mk (Below.trod Tryz.laidOut (by kernel_rfl) (of_decide_eq_true (by kernel_rfl)) k4 bel lt4) (trodAll_cons_mk (Below.trod Tryz.laidOut (by kernel_rfl) (of_decide_eq_true (by kernel_rfl)) k5 bel lt5) trodAll_mk0)))))), rfl, bel.frame _, fun h => by cases h⟩

theorem over : Rows.proofSoundRow.holds Tryz.pinned (OpenSpec.ofChange Rows.proofSoundSpec) :=
  OpenClaim.holds_of_wide 7 Tryz.f7 rfl rfl rfl rfl rfl rfl rfl ⟨rfl, rfl, rfl, rfl, rfl⟩ rfl rfl rfl rfl rfl (by kernel_rfl) Tryz.func7 (by kernel_rfl)
    (of_decide_eq_true (by kernel_rfl)) (by unfold Func.isWrapper; first | (rw [if_pos (by decide +kernel)]; kernel_rfl) | (rw [if_neg (by decide +kernel)]; exact ⟨rfl, rfl⟩))
    (fun os started H enc _ => lifted os started H enc)
end Go.Proofs.YtjifdfhibkipnaaGreat.ProofSoundP
namespace Go.Proofs.YtjifdfhibkipnaaGreat
theorem proofSound_holds : Rows.ProofSoundSaid := ProofSoundP.over
end Go.Proofs.YtjifdfhibkipnaaGreat
