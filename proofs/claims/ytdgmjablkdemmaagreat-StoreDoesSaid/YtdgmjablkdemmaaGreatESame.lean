/-
  The reference's Same and Holds.
-/
import Derived.Test.YtdgmjablkdemmaaGreatTMk
namespace Go.Proofs.YtdgmjablkdemmaaGreat
open Go.RowKit Go.Maps

theorem cert_dec (c d : BCert) : decide (c = d) = (decide (c.kind = d.kind) && (decide (c.sg = d.sg) && (decide (c.sp = d.sp) && (sameB c.fr d.fr && (decide (c.f = d.f) && (decide (c.t = d.t) && decide (c.n = d.n))))))) := by
  obtain ⟨c1, c2, c3, c4, c5, c6, c7⟩ := c
  obtain ⟨d1, d2, d3, d4, d5, d6, d7⟩ := d
  unfold sameB
  rw [Bool.eq_iff_iff]
  simp only [BCert.mk.injEq, decide_eq_true_eq, Bool.and_eq_true]
set_option maxHeartbeats 4000000 in
set_option maxRecDepth 100000 in
theorem rsame_any (w : World) (c d : BCert) (sa sb : Option Addr) (sc sd : Nat) (G H : Nat → Prop) (hc : CertAt w (.slice sa c.fr.length sc) G c) (hd : CertAt w (.slice sb d.fr.length sd) H d) :
    Calls Tryz.prog 20 #[certV c (.slice sa c.fr.length sc), certV d (.slice sb d.fr.length sd)] w fun e w' => e = .returned (.bool (decide (c = d))) ∧ Chg (fun _ => False) w w' := by
  have R := Lib.hid (cert_dec c d)
  generalize decide (c = d) = res at *
  obtain ⟨kind, sg, sp, fr, f, t, n⟩ := c
  obtain ⟨kind', sg', sp', fr', f', t', n'⟩ := d
  unfold certV
  simp only at hc hd R ⊢
  have k0 := chg_alloc (fun _ => False) w (.cells #[.int .i64 kind, .int .u16 (sg : Int), .string sp, .slice sa fr.length sc, .int .i64 f, .int .i64 t, .int .i64 n] 34)
  have k1 := chg_alloc (fun _ => False) (w.alloc (.cells #[.int .i64 kind, .int .u16 (sg : Int), .string sp, .slice sa fr.length sc, .int .i64 f, .int .i64 t, .int .i64 n] 34)) (.cells #[.int .i64 kind', .int .u16 (sg' : Int), .string sp', .slice sb fr'.length sd, .int .i64 f', .int .i64 t', .int .i64 n'] 34)
  have o1 := k1.obj (fun e => e) (obj_alloc_new w (.cells #[.int .i64 kind, .int .u16 (sg : Int), .string sp, .slice sa fr.length sc, .int .i64 f, .int .i64 t, .int .i64 n] 34))
  have o2 := obj_alloc_new (w.alloc (.cells #[.int .i64 kind, .int .u16 (sg : Int), .string sp, .slice sa fr.length sc, .int .i64 f, .int .i64 t, .int .i64 n] 34)) (.cells #[.int .i64 kind', .int .u16 (sg' : Int), .string sp', .slice sb fr'.length sd, .int .i64 f', .int .i64 t', .int .i64 n'] 34)
  rw [World.size_alloc] at o2
  have RQ := Lib.hid (requal_any _ _ _ _ _ _ _ ((hc.set.at_.chg k0 (fun _ _ e => e)).chg k1 (fun _ _ e => e)) ((hd.set.at_.chg k0 (fun _ _ e => e)).chg k1 (fun _ _ e => e)))
  have K := Lib.hid (k0.trans k1)
  have g1 : (kind == kind') = decide (kind = kind') := rfl
  have g2 : ((sg : Int) == (sg' : Int)) = decide (sg = sg') := by rw [Bool.eq_iff_iff, beq_iff_eq, decide_eq_true_eq]; omega
  have g3 : (sp.toList == sp'.toList) = decide (sp = sp') := str_eq _ _
  have g4 : (f == f') = decide (f = f') := rfl
  have g5 : (t == t') = decide (t = t') := rfl
  have g6 : (n == n') = decide (n = n') := rfl
  generalize decide (kind = kind') = b1 at *
  generalize decide (sg = sg') = b2 at *
  generalize decide (sp = sp') = b3 at *
  generalize decide (f = f') = b5 at *
  generalize decide (t = t') = b6 at *
  generalize decide (n = n') = b7 at *
  generalize sameB fr fr' = b4 at *
  have c0 := cell_of (o := 0) o1 rfl
  have d0 := cell_of (o := 0) o2 rfl
  have c1 := cell_of (o := 1) o1 rfl
  have d1 := cell_of (o := 1) o2 rfl
  have c2 := cell_of (o := 2) o1 rfl
  have d2 := cell_of (o := 2) o2 rfl
  have c3 := cell_of (o := 3) o1 rfl
  have d3 := cell_of (o := 3) o2 rfl
  have O1 := Lib.hid o1
  have O2 := Lib.hid o2
  clear hc hd k0 k1 o1 o2
  go_enter Tryz.func20, Tryz.ntmps20
  cases b1 with
  | false =>
    go_wp2
    go_ret
    exact ⟨by rw [R.out]; rfl, K.out⟩
  | true =>
  cases b2 with
  | false =>
    go_wp2
    go_ret
    exact ⟨by rw [R.out]; rfl, K.out⟩
  | true =>
  cases b3 with
  | false =>
    go_wp2
    go_ret
    exact ⟨by rw [R.out]; rfl, K.out⟩
  | true =>
  go_wp2_with fail
  clear c0 c1 c2 c3 d0 d1 d2 d3
  generalize (w.alloc (.cells #[.int .i64 kind, .int .u16 (sg : Int), .string sp, .slice sa fr.length sc, .int .i64 f, .int .i64 t, .int .i64 n] 34)).alloc (.cells #[.int .i64 kind', .int .u16 (sg' : Int), .string sp', .slice sb fr'.length sd, .int .i64 f', .int .i64 t', .int .i64 n'] 34) = wa at *
  (with_reducible refine (RQ.out).mono ?_)
  rintro e w2 ⟨rfl, dr⟩
  have k2 : Chg (fun _ => False) wa w2 := dr.chg
  have c4 := cell_of (o := 4) (k2.obj (fun e => e) O1.out) rfl
  have d4 := cell_of (o := 4) (k2.obj (fun e => e) O2.out) rfl
  have c5 := cell_of (o := 5) (k2.obj (fun e => e) O1.out) rfl
  have d5 := cell_of (o := 5) (k2.obj (fun e => e) O2.out) rfl
  have c6 := cell_of (o := 6) (k2.obj (fun e => e) O1.out) rfl
  have d6 := cell_of (o := 6) (k2.obj (fun e => e) O2.out) rfl
  have K2 := Lib.hid (K.out.trans k2)
  clear k2 dr RQ K
  cases b4 with
  | false =>
    go_wp2
    go_ret
    exact ⟨by rw [R.out]; rfl, K2.out⟩
  | true =>
  cases b5 with
  | false =>
    go_wp2
    go_ret
    exact ⟨by rw [R.out]; rfl, K2.out⟩
  | true =>
  cases b6 with
  | false =>
    go_wp2
    go_ret
    exact ⟨by rw [R.out]; rfl, K2.out⟩
  | true =>
    cases b7 with
    | false =>
      go_wp2
      go_ret
      exact ⟨by rw [R.out]; rfl, K2.out⟩
    | true =>
      go_wp2
      go_ret
      exact ⟨by rw [R.out]; rfl, K2.out⟩
set_option maxRecDepth 100000 in
theorem rholds_any (w : World) (c : BCert) (sa : Option Addr) (sn sc : Nat) (t : Int) :
    Calls Tryz.prog 47 #[certV c (.slice sa sn sc), .int .i64 t] w fun e w' => e = .returned (.bool (holdsB c t)) ∧ Chg (fun _ => False) w w' := by
  obtain ⟨kind, sg, sp, fr, f, u, n⟩ := c
  unfold certV holdsB
  simp only
  have p0 := obj_alloc_new w (.cells #[.int .i64 kind, .int .u16 (sg : Int), .string sp, .slice sa sn sc, .int .i64 f, .int .i64 u, .int .i64 n] 34)
  have k0 := Lib.hid (chg_alloc (fun _ => False) w (.cells #[.int .i64 kind, .int .u16 (sg : Int), .string sp, .slice sa sn sc, .int .i64 f, .int .i64 u, .int .i64 n] 34))
  have p4 := cell_of (o := 4) p0 rfl
  have p5 := cell_of (o := 5) p0 rfl
  clear p0
  generalize hb1 : decide (f ≤ t) = b1
  generalize hb2 : decide (t ≤ u) = b2
  go_enter Tryz.func47, Tryz.ntmps47
  cases b1 with
  | true =>
    go_wp2
    go_ret
    exact ⟨rfl, k0.out⟩
  | false =>
    go_wp2
    go_ret
    exact ⟨rfl, k0.out⟩
end Go.Proofs.YtdgmjablkdemmaaGreat
