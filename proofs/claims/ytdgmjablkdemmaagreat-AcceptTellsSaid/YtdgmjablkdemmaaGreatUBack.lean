/-
  Package accept: backed, Backed, refused.
-/
import Derived.Test.YtdgmjablkdemmaaGreatUWords
namespace Go.Proofs.YtdgmjablkdemmaaGreat
open Go.RowKit Go.Maps

theorem back_drop {R : List BRul} {b : Int} {t : ByteArray} {l : List ByteArray} {k : Nat} {x : ByteArray} (h : l[k]? = some x) :
    backE R b t (l.drop k) = if rowErr R x b = 0 then (if tellB R x t b = true then backE R b t (l.drop (k + 1)) else (false, 0)) else (false, rowErr R x b) := by
  have : l.drop k = x :: l.drop (k + 1) := by
    obtain ⟨hk, e⟩ := List.getElem?_eq_some_iff.1 h
    rw [List.drop_eq_getElem_cons hk, e]
  rw [this]; rfl
def LBackRes (w : World) (lk mS : Nat) (ra : Option Addr) (R : List BRul) (rc : Nat) (b : Int) (G : Nat → Prop) (N : Nat) (B : Nat → Prop) (c : BCert) (e : Ending) (w' : World) : Prop :=
  ∃ B', LookAt w' lk mS ra R rc b G (N + c.fr.length) B' ∧ Chg (· = mS) w w' ∧ (∀ k, B' k → B k ∨ w.heap.size ≤ k) ∧ e = .returned (.tuple #[.bool (backC R b c).1, .int .i64 (backC R b c).2])
set_option maxHeartbeats 8000000 in
set_option maxRecDepth 100000 in
theorem lbacked_any (w : World) (lk mS : Nat) (ra : Option Addr) (R : List BRul) (rc : Nat) (b : Int) (G : Nat → Prop) (N : Nat) (B : Nat → Prop) (c : BCert) (sa : Option Addr) (sc : Nat) (Gc : Nat → Prop)
    (h : LookAt w lk mS ra R rc b G N B) (hc : CertAt w (.slice sa c.fr.length sc) Gc c) (hg : ∀ k, Gc k → k ≠ mS) (hN : N + c.fr.length ≤ 1000000) :
    Calls Tryz.prog 55 #[.pointer (some ⟨lk, 0, none⟩), certV c (.slice sa c.fr.length sc)] w (LBackRes w lk mS ra R rc b G N B c) := by
  have hms : mS < w.heap.size ∧ lk < w.heap.size := by
    obtain ⟨_, _, _, q, _⟩ := h
    exact ⟨q.ne.2.2.2.2, q.ne.2.2.2.1⟩
  unfold LBackRes backC
  obtain ⟨kind, sg, sp, fr, f, t, n⟩ := c
  unfold certV
  simp only at hc hN ⊢
  have hfl : fr.length ≤ maxLen := by obtain ⟨_, _, _, q, _⟩ := hc.set.at_; exact q
  unfold maxLen at hfl
  have hsg := hc.sg
  simp only at hsg
  have ka := chg_alloc (fun _ => False) w (.cells #[.int .i64 kind, .int .u16 (sg : Int), .string sp, .slice sa fr.length sc, .int .i64 f, .int .i64 t, .int .i64 n] 34)
  have oa := obj_alloc_new w (.cells #[.int .i64 kind, .int .u16 (sg : Int), .string sp, .slice sa fr.length sc, .int .i64 f, .int .i64 t, .int .i64 n] 34)
  have kb := chg_alloc (fun _ => False) (w.alloc (.cells #[.int .i64 kind, .int .u16 (sg : Int), .string sp, .slice sa fr.length sc, .int .i64 f, .int .i64 t, .int .i64 n] 34)) (.cells #[.int .u16 (sg : Int)] 30)
  have ob := obj_alloc_new (w.alloc (.cells #[.int .i64 kind, .int .u16 (sg : Int), .string sp, .slice sa fr.length sc, .int .i64 f, .int .i64 t, .int .i64 n] 34)) (.cells #[.int .u16 (sg : Int)] 30)
  have WO := Lib.hid (wof1_any ((w.alloc (.cells #[.int .i64 kind, .int .u16 (sg : Int), .string sp, .slice sa fr.length sc, .int .i64 f, .int .i64 t, .int .i64 n] 34)).alloc (.cells #[.int .u16 (sg : Int)] 30)) (w.heap.size + 1) 0 1 sg hsg (by have := cell_of (o := 0) ob rfl; rwa [World.size_alloc] at this))
  have KA := Lib.hid (ka.trans kb)
  have OA := Lib.hid (kb.obj (fun e => e) oa)
  have H := Lib.hid h
  have HC := Lib.hid hc.set.at_
  have HG := Lib.hid hg
  clear ka oa kb ob h hc hg hsg
  generalize atomW sg = tw at *
  go_enter Tryz.func55, Tryz.ntmps55
  go_wp2_with fail
  generalize (w.alloc (.cells #[.int .i64 kind, .int .u16 (sg : Int), .string sp, .slice sa fr.length sc, .int .i64 f, .int .i64 t, .int .i64 n] 34)).alloc (.cells #[.int .u16 (sg : Int)] 30) = w1 at *
  (with_reducible refine (WO.out).mono ?_)
  rintro e w2 ⟨rfl, k2⟩
  have K2 := Lib.hid (KA.out.trans k2)
  have O2 := Lib.hid (k2.obj (fun e => e) OA.out)
  have c3 := cell_of (o := 3) O2.out rfl
  have H2 := Lib.hid (H.out.chg K2.out (fun _ _ e => e) (fun _ _ e => e))
  have HC2 := Lib.hid (HC.out.chg K2.out (fun _ _ e => e))
  clear WO k2 KA OA H HC
  go_wp2_with fail
  clear c3
  go_loopw [18] (fun iv wr => ∃ (k : Nat) (B' : Nat → Prop), k ≤ fr.length ∧ iv = .int .i64 k ∧ Hid (LookAt wr lk mS ra R rc b G (N + k) B' ∧ Chg (· = mS) w2 wr ∧ (∀ j, B' j → B j ∨ w.heap.size ≤ j) ∧ backE R b tw fr = backE R b tw (fr.drop k))) (fun iv _ => fr.length - (intOf iv).toNat)
  case atStart => exact ⟨0, B, by omega, rfl, Lib.hid ⟨H2.out, Chg.refl _ _, fun j hj => .inl hj, by rw [List.drop_zero]⟩⟩
  case round =>
    obtain ⟨k, B', hk, rfl, HI⟩ := hrel
    obtain ⟨hl, hkc, hbb, hbe⟩ := HI.out
    have HL := Lib.hid hl
    have KC := Lib.hid hkc
    have BB := Lib.hid hbb
    have BE := Lib.hid hbe
    have KF := Lib.hid ((K2.out.mono (T := (· = mS)) (fun _ _ e => e.elim)).trans hkc)
    clear HI hl hkc hbb hbe
    by_cases hlt : k < fr.length
    rotate_left
    · obtain rfl : k = fr.length := by omega
      have R0 := Lib.hid (show backE R b tw fr = (true, 0) by rw [BE.out, List.drop_length]; rfl)
      go_wp2
      go_ret2
      exact ⟨B', HL.out, KF.out, BB.out, by rw [R0.out]; rfl⟩
    obtain ⟨x, hx⟩ : ∃ x, fr[k]? = some x := ⟨_, List.getElem?_eq_getElem hlt⟩
    obtain ⟨_, _, e1, _, hcl⟩ := HC2.out.chg KC.out HG.out
    cases e1
    obtain ⟨lb, lo, rfl, _, c0, hxs⟩ := hcl k x hx
    have BD := Lib.hid (back_drop (R := R) (b := b) (t := tw) hx)
    have WD := lwords_any wr lk mS ra R rc b G (N + k) B' x HL.out hxs (by omega)
    unfold LWordsRes at WD
    have WD := Lib.hid WD
    clear hcl hx
    go_wp2_with fail
    (with_reducible refine (WD.out).mono ?_)
    rintro e w3 ⟨B3, hl3, k3, hb3, ⟨a, L, lc, rfl, hw3, hr3⟩ | ⟨hr3, rfl⟩⟩
    · have CO := containsL_any w3 (.slice a L.length lc) _ L tw hw3
      rw [hr3.tell] at CO
      have HE := Lib.hid hr3.err
      have CO := Lib.hid CO
      have HL3 := Lib.hid hl3
      have K3 := Lib.hid (KF.out.trans k3)
      have KC3 := Lib.hid (KC.out.trans k3)
      have B3B := Lib.hid (show ∀ j, B3 j → B j ∨ w.heap.size ≤ j from fun j hj => by
        rcases hb3 j hj with q | q
        · exact BB.out j q
        · have := KF.out.size
          exact .inr (by omega))
      clear WD hl3 k3 hb3 hw3 hr3 c0 HL KC
      cases ht : tellB R x tw b with
      | true =>
        rw [ht] at CO
        have BE2 := Lib.hid (show backE R b tw fr = backE R b tw (fr.drop (k + 1)) by rw [BE.out, BD.out, if_pos HE.out, if_pos ht])
        clear ht BE BD HE
        go_wp2_with fail
        (with_reducible refine (CO.out).mono ?_)
        rintro e w4 ⟨rfl, rfl⟩
        go_wp2
        go_roundw
        case rel => exact ⟨k + 1, B3, by omega, by go_num, Lib.hid ⟨HL3.out, KC3.out, B3B.out, BE2.out⟩⟩
        case measure => simp [intOf]; omega
      | false =>
        rw [ht] at CO
        have R0 := Lib.hid (show backE R b tw fr = (false, 0) by rw [BE.out, BD.out, if_pos HE.out, if_neg (by rw [ht]; decide)])
        clear ht BE BD HE
        go_wp2_with fail
        (with_reducible refine (CO.out).mono ?_)
        rintro e w4 ⟨rfl, rfl⟩
        go_wp2
        go_ret2
        exact ⟨B3, HL3.out.le (by omega), K3.out, B3B.out, by rw [R0.out]; rfl⟩
    · have g : (rowErr R x b != 0) = true := by rw [bne_iff_ne]; exact hr3
      have R0 := Lib.hid (show backE R b tw fr = (false, rowErr R x b) by rw [BE.out, BD.out, if_neg hr3])
      have HL3 := Lib.hid hl3
      have K3 := Lib.hid (KF.out.trans k3)
      have B3B := Lib.hid (show ∀ j, B3 j → B j ∨ w.heap.size ≤ j from fun j hj => by
        rcases hb3 j hj with q | q
        · exact BB.out j q
        · have := KF.out.size
          exact .inr (by omega))
      clear WD hl3 k3 hb3 hr3 c0 HL KC BE BD
      go_wp2
      go_ret2
      exact ⟨B3, HL3.out.le (by omega), K3.out, B3B.out, by rw [R0.out]; rfl⟩
/-- A looker at its start. -/
theorem look_start {w : World} {ra : Option Addr} {R : List BRul} {rc : Nat} {b : Int} {G : Nat → Prop} (hR : RulesAt w (.slice ra R.length rc) G R) (hG : ∀ k, G k → k < w.heap.size) (hf : (R.length ≤ 400 ∧ ∀ r ∈ R, r.1.size ≤ 400) ∨ 400 < R.length) :
    LookAt ((w.alloc (.map #[] 0)).alloc (.cells #[.slice ra R.length rc, .int .i64 b, .map (some w.heap.size)] 100)) (w.heap.size + 1) w.heap.size ra R rc b G 0 (fun k => k = w.heap.size ∨ k = w.heap.size + 1) := by
  have k1 := chg_alloc (fun _ => False) w (.map #[] 0)
  have k2 := chg_alloc (fun _ => False) (w.alloc (.map #[] 0)) (.cells #[.slice ra R.length rc, .int .i64 b, .map (some w.heap.size)] 100)
  have s1 : (w.alloc (.map #[] 0)).heap.size = w.heap.size + 1 := by rw [World.size_alloc]
  have s2 : ((w.alloc (.map #[] 0)).alloc (.cells #[.slice ra R.length rc, .int .i64 b, .map (some w.heap.size)] 100)).heap.size = w.heap.size + 2 := by rw [World.size_alloc, s1]
  refine ⟨fun _ => none, 0, fun _ => False, ⟨?_, (MapV.made _ _ w).chg k2 (fun e => e), (hR.chg (k1.trans k2) (fun _ _ e => e)), ?_, (fun x v hv => by cases hv), (fun k hk => hk.elim), fun k hk => ?_⟩, Nat.le_refl _, fun k hk => hk.elim, .inr rfl, .inl rfl, fun k hk => ?_⟩
  · have := obj_alloc_new (w.alloc (.map #[] 0)) (.cells #[.slice ra R.length rc, .int .i64 b, .map (some w.heap.size)] 100)
    rw [s1] at this
    exact this
  · exact hf.imp (fun q => q) (fun q => ⟨q, fun _ => rfl⟩)
  · have := hG k hk
    rw [s2]
    omega
  · rw [s2]
    omega
def backedE (R : List BRul) (b : Int) (c : BCert) : Bool × Int := if certB c = true then backC R b c else (false, 2)
def BackedRes (w : World) (r : Bool × Int) (e : Ending) (w' : World) : Prop := e = .returned (.tuple #[.bool r.1, .int .i64 r.2]) ∧ Chg (fun _ => False) w w'
set_option maxHeartbeats 4000000 in
set_option maxRecDepth 100000 in
theorem backed_any (w : World) (ra : Option Addr) (R : List BRul) (rc : Nat) (b : Int) (c : BCert) (sa : Option Addr) (sc : Nat) (Gc : Nat → Prop)
    (hR : RulesAt w (.slice ra R.length rc) (· < w.heap.size) R) (hf : (R.length ≤ 400 ∧ ∀ r ∈ R, r.1.size ≤ 400) ∨ 400 < R.length) (hc : CertAt w (.slice sa c.fr.length sc) Gc c) (hg : ∀ k, Gc k → k < w.heap.size) :
    Calls Tryz.prog 33 #[.slice ra R.length rc, certV c (.slice sa c.fr.length sc), .int .i64 b] w (BackedRes w (backedE R b c)) := by
  have ka := chg_alloc (fun _ => False) w (.cells #[.int .i64 c.kind, .int .u16 (c.sg : Int), .string c.sp, .slice sa c.fr.length sc, .int .i64 c.f, .int .i64 c.t, .int .i64 c.n] 34)
  have oa := obj_alloc_new w (.cells #[.int .i64 c.kind, .int .u16 (c.sg : Int), .string c.sp, .slice sa c.fr.length sc, .int .i64 c.f, .int .i64 c.t, .int .i64 c.n] 34)
  have CH := check_any (w.alloc (.cells #[.int .i64 c.kind, .int .u16 (c.sg : Int), .string c.sp, .slice sa c.fr.length sc, .int .i64 c.f, .int .i64 c.t, .int .i64 c.n] 34)) c sa sc Gc (hc.chg ka (fun _ _ e => e))
  have HB := Lib.hid (show certB c = true → c.fr.length ≤ 1000 from fun q => by
    obtain ⟨_, z, _⟩ := of_decide_eq_true (certB_may q).fr
    rw [lists_len] at z
    exact Nat.le_trans z (by decide))
  unfold BackedRes backedE
  have LB := Lib.hid (fun w1 (k : Chg (fun _ => False) w w1) (q : certB c = true) =>
    let s := look_start (w := w1) (b := b) (hR.chg k (fun _ _ e => e)) (fun j hj => Nat.lt_of_lt_of_le hj k.size) hf
    lbacked_any _ (w1.heap.size + 1) w1.heap.size ra R rc b (· < w.heap.size) 0 _ c sa sc Gc s ((hc.chg k (fun _ _ e => e)).chg ((chg_alloc (fun _ => False) w1 (.map #[] 0)).trans (chg_alloc (fun _ => False) _ _)) (fun _ _ e => e)) (fun j hj e => by have := hg j hj; have := k.size; omega) (by have := HB.out q; omega))
  unfold CheckRes at CH
  unfold LBackRes at LB
  generalize certB c = cb at *
  generalize backC R b c = res at *
  obtain ⟨kind, sg, sp, fr, f, t, n⟩ := c
  unfold certV at CH LB ⊢
  simp only at CH LB ka oa ⊢
  have CH := Lib.hid CH
  have KA := Lib.hid ka
  have OA := Lib.hid oa
  clear ka oa hR hc hg hf HB
  go_enter Tryz.func33, Tryz.ntmps33
  have hmm := @run_makeMap Tryz.prog
  go_wp2_with fail
  generalize hw1 : w.alloc (.cells #[.int .i64 kind, .int .u16 (sg : Int), .string sp, .slice sa fr.length sc, .int .i64 f, .int .i64 t, .int .i64 n] 34) = w1 at *
  clear hw1
  (with_reducible refine (CH.out).mono ?_)
  rintro e w2 ⟨⟨k, rfl, hk⟩, k2⟩
  have O2 := Lib.hid (k2.obj (fun e => e) OA.out)
  have K2 := Lib.hid (KA.out.trans k2)
  clear CH k2 KA OA
  cases cb with
  | false =>
    have g : (k != 0) = true := by rw [bne_iff_ne]; intro e; exact absurd (hk.1 e) (by decide)
    clear hk
    go_wp2
    go_ret2
    exact ⟨rfl, K2.out⟩
  | true =>
    have g : (k != 0) = false := by rw [hk.2 rfl]; rfl
    have LB2 := Lib.hid (LB.out w2 K2.out rfl)
    have kk := (chg_alloc (fun _ => False) w2 (.map #[] 0)).trans (chg_alloc (fun _ => False) (w2.alloc (.map #[] 0)) (.cells #[.slice ra R.length rc, .int .i64 b, .map (some w2.heap.size)] 100))
    have K3 := Lib.hid (K2.out.trans kk)
    have O3 := Lib.hid (kk.obj (fun e => e) O2.out)
    have d0 := cell_of (o := 0) O3.out rfl
    have d1 := cell_of (o := 1) O3.out rfl
    have d2 := cell_of (o := 2) O3.out rfl
    have d3 := cell_of (o := 3) O3.out rfl
    have d4 := cell_of (o := 4) O3.out rfl
    have d5 := cell_of (o := 5) O3.out rfl
    have d6 := cell_of (o := 6) O3.out rfl
    have hsz := K2.out.size
    clear hk LB kk O2
    go_wp2_with fail
    generalize (w2.alloc (.map #[] 0)).alloc (.cells #[.slice ra R.length rc, .int .i64 b, .map (some w2.heap.size)] 100) = w3 at *
    (with_reducible refine (LB2.out).mono ?_)
    rintro e w4 ⟨B', _, k4, _, rfl⟩
    have K4 := Lib.hid (K3.out.next k4 (fun j hj e => by omega))
    clear LB2 k4 d0 d1 d2 d3 d4 d5 d6
    go_wp2
    go_ret2
    exact ⟨rfl, K4.out⟩
end Go.Proofs.YtdgmjablkdemmaaGreat
