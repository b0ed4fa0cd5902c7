/-
  StoreDoes: the walk.
-/
import Derived.Test.YtdgmjablkdemmaaGreatEBoth
import Derived.Deep.DeepCutAuto
import Derived.Deep.CutBlock
namespace Go.Proofs.YtdgmjablkdemmaaGreat
open Go.RowKit Go.Maps

def qmark : ByteArray := ⟨#[63]⟩
set_option maxHeartbeats 16000000 in
set_option maxRecDepth 100000 in
theorem does_law (w : World) (room : Int) (v : Value) (A : List BAct) (t : Int) (x : ByteArray) (hv : ActsAt w v (· < w.heap.size) A) (hx : x.size ≤ maxLen) :
    Calls Tryz.prog 3 #[.int .i64 room, v, .int .i64 t, .string x] w fun e w' => e = .returned (.bool true) ∧ Chg (fun _ => False) w w' := by
  have HV := Lib.hid hv
  obtain ⟨la, cap, rfl, hl0, _⟩ := hv
  unfold maxLen at hl0
  have AW := Lib.hid (awake15_any w)
  go_enter Tryz.func3, Tryz.ntmps3
  go_wp2_with fail
  (with_reducible refine (AW.out).mono ?_)
  rintro e w1 ⟨rfl, k1⟩
  have K1 := Lib.hid k1
  clear AW k1
  have HX := Lib.hid hx
  unfold maxLen at hx
  by_cases h100 : 100 < x.size
  · have g1 : decide (100 < (x.size : Int)) = true := decide_eq_true (by omega)
    have g2 : decide (100 < x.size) = true := decide_eq_true h100
    go_wp2
    go_ret
    exact ⟨rfl, K1.out⟩
  have g1 : decide (100 < (x.size : Int)) = false := decide_eq_false (by omega)
  have g2 : decide (100 < x.size) = false := decide_eq_false h100
  by_cases hroom : 1 ≤ room ∧ room ≤ 200
  rotate_left
  · have NB := Lib.hid (new_bad w1 room hroom)
    have RB := Lib.hid (rnew_bad w1 room hroom)
    go_wp2_with fail
    (with_reducible refine (NB.out).mono ?_)
    rintro e w2 ⟨rfl, rfl⟩
    go_wp2_with fail
    (with_reducible refine (RB.out).mono ?_)
    rintro e w2 ⟨rfl, rfl⟩
    go_wp2
    go_ret
    exact ⟨rfl, K1.out⟩
  obtain ⟨r, rfl⟩ : ∃ r : Nat, room = (r : Int) := ⟨room.toNat, by omega⟩
  have NW := Lib.hid (new_ok w1 r (by omega) (by omega))
  have RW := Lib.hid (fun W => rnew_ok W r (by omega) (by omega))
  clear hroom
  go_wp2_with fail
  (with_reducible refine (NW.out).mono ?_)
  rintro e w2 ⟨b, B0, rfl, h2, hb2, k2⟩
  have RW2 := Lib.hid (RW.out w2)
  have S2 := Lib.hid (And.intro h2 (And.intro hb2 k2))
  clear NW RW h2 hb2 k2
  go_wp2_with fail
  (with_reducible refine (RW2.out).mono ?_)
  rintro e w3 ⟨rfl, h3, k3⟩
  have BO := Lib.hid (Both.first K1.out S2.out.1 S2.out.2.1 S2.out.2.2 h3 k3)
  clear RW2 h3 k3 S2 K1
  generalize w2.heap.size = rb at *
  generalize (fun k => k = rb) = R0 at *
  go_wp2_with fail
  go_loopw [11] (fun iv wr => ∃ (k : Nat) (s : PStore) (B R : Nat → Prop), k ≤ A.length ∧ k ≤ 100 ∧ iv = .int .i64 k ∧ Hid (Both w wr b rb B R s k)) (fun iv _ => 100 - (intOf iv).toNat)
  case atStart => exact ⟨0, newS r, B0, R0, by omega, by omega, rfl, BO⟩
  case round =>
    obtain ⟨k, s, B, R, hk, hk2, rfl, BT⟩ := hrel
    clear BO
    by_cases hlt : k < A.length
    rotate_left
    · obtain rfl : k = A.length := by omega
      go_wp2
      go_ret
      exact ⟨rfl, BT.out.kc⟩
    by_cases h100 : k < 100
    rotate_left
    · have g1 : decide ((k : Int) < (A.length : Int)) = true := decide_eq_true (by omega)
      have g2 : decide ((k : Int) < 100) = false := decide_eq_false (by omega)
      have g3 : decide (k < A.length) = true := decide_eq_true hlt
      have g4 : decide (k < 100) = false := decide_eq_false h100
      go_wp2
      go_ret
      exact ⟨rfl, BT.out.kc⟩
    have g1 : decide ((k : Int) < (A.length : Int)) = true := decide_eq_true (by omega)
    have g2 : decide ((k : Int) < 100) = true := decide_eq_true (by omega)
    have g3 : decide (k < A.length) = true := decide_eq_true hlt
    have g4 : decide (k < 100) = true := decide_eq_true h100
    obtain ⟨y, hy⟩ : ∃ y, A[k]? = some y := ⟨_, List.getElem?_eq_getElem hlt⟩
    obtain ⟨_, _, e1, _, hcl⟩ := HV.out.chg BT.out.kc (fun _ _ e => e)
    cases e1
    obtain ⟨g, o, sa, sc, rfl, _, c0, c1, c2, c3, c4, c5, c6, c7, c8, hca⟩ := hcl k y hy
    clear hcl hy
    obtain ⟨kind, ⟨ck, sg, sp, fr, f, tt, n⟩, T⟩ := y
    simp only at c0 c1 c2 c3 c4 c5 c6 c7 c8 hca
    have ka := chg_alloc (fun _ => False) wr (.cells #[.int .i64 kind, .int .i64 ck, .int .u16 (sg : Int), .string sp, .slice sa fr.length sc, .int .i64 f, .int .i64 tt, .int .i64 n, .int .i64 T] 36)
    have LG := large15F_any (wr.alloc (.cells #[.int .i64 kind, .int .i64 ck, .int .u16 (sg : Int), .string sp, .slice sa fr.length sc, .int .i64 f, .int .i64 tt, .int .i64 n, .int .i64 T] 36)) ⟨ck, sg, sp, fr, f, tt, n⟩ sa sc (· < w.heap.size) (hca.chg ka (fun _ _ e => e))
    unfold certV at LG
    have LG := Lib.hid LG
    have HCA := Lib.hid (hca.chg ka (fun _ _ e => e))
    have OA := Lib.hid (obj_alloc_new wr (.cells #[.int .i64 kind, .int .i64 ck, .int .u16 (sg : Int), .string sp, .slice sa fr.length sc, .int .i64 f, .int .i64 tt, .int .i64 n, .int .i64 T] 36))
    have BA := Lib.hid (BT.out.chg ka)
    have NBQ := Lib.hid (show ¬ B wr.heap.size ∧ ¬ R wr.heap.size ∧ w.heap.size ≤ wr.heap.size from ⟨fun q => Nat.lt_irrefl _ (BT.out.st.lt q), fun q => Nat.lt_irrefl _ (BT.out.rf.lt q), BT.out.kc.size⟩)
    clear ka hca BT
    go_wp2_with fail
    generalize wr.alloc (.cells #[.int .i64 kind, .int .i64 ck, .int .u16 (sg : Int), .string sp, .slice sa fr.length sc, .int .i64 f, .int .i64 tt, .int .i64 n, .int .i64 T] 36) = wa at *
    generalize wr.heap.size = q at *
    (with_reducible refine (LG.out).mono ?_)
    rintro e w3 ⟨lg, rfl, k3, hfit⟩
    have O3 := Lib.hid (k3.obj (fun e => e) OA.out)
    have B3 := Lib.hid (BA.out.chg k3)
    have C3 := Lib.hid (HCA.out.chg k3 (fun _ _ e => e))
    clear k3 LG OA BA HCA c0 c1 c2 c3 c4 c5 c6 c7 c8
    cases lg with
    | true =>
      go_wp2
      go_ret
      exact ⟨rfl, B3.out.kc⟩
    | false =>
    have FIT := Lib.hid (hfit rfl)
    clear hfit
    obtain ⟨hf1, hf2, _⟩ := FIT.out
    simp only at hf1 hf2
    have d0 := cell_of (o := 0) O3.out rfl
    have d1 := cell_of (o := 1) O3.out rfl
    have d2 := cell_of (o := 2) O3.out rfl
    have d3 := cell_of (o := 3) O3.out rfl
    have d4 := cell_of (o := 4) O3.out rfl
    have d5 := cell_of (o := 5) O3.out rfl
    have d6 := cell_of (o := 6) O3.out rfl
    have d7 := cell_of (o := 7) O3.out rfl
    have d8 := cell_of (o := 8) O3.out rfl
    have hnx : s.next ≤ 100 ∧ s.turn ≤ 100 := ⟨by have := B3.out.next; omega, by have := B3.out.turn; omega⟩
    have hs3 := B3.out.kc.size
    go_upto_block 2 with fail
    go_cut [] (fun wc => ∃ s' B' R', Both w wc b rb B' R' s' (k + 1) ∧ wc.heap[q]? = some (.cells #[.int .i64 kind, .int .i64 ck, .int .u16 (sg : Int), .string sp, .slice sa fr.length sc, .int .i64 f, .int .i64 tt, .int .i64 n, .int .i64 T] 36 (0, 0)))
    case first =>
      by_cases hk0 : kind = 0
      · subst hk0
        as_aux_lemma =>
        have k4 := chg_alloc (fun _ => False) w3 (.cells #[.int .i64 ck, .int .u16 (sg : Int), .string sp, .slice sa fr.length sc, .int .i64 f, .int .i64 tt, .int .i64 n] 34)
        have OW := Lib.hid (obj_alloc_new w3 (.cells #[.int .i64 ck, .int .u16 (sg : Int), .string sp, .slice sa fr.length sc, .int .i64 f, .int .i64 tt, .int .i64 n] 34))
        have K4 := Lib.hid k4
        have SRC := Lib.hid (fun W (kw : Chg (fun _ => False) w3 W) => words_src (C3.out.chg kw (fun _ _ e => e)).set.at_)
        have HNIL := Lib.hid C3.out.set.nil
        have hs4 : w3.heap.size < (w3.alloc (.cells #[.int .i64 ck, .int .u16 (sg : Int), .string sp, .slice sa fr.length sc, .int .i64 f, .int .i64 tt, .int .i64 n] 34)).heap.size := by rw [World.size_alloc]; omega
        have p3 := cell_of (o := 3) ((chg_alloc (fun _ => False) (w3.alloc (.cells #[.int .i64 ck, .int .u16 (sg : Int), .string sp, .slice sa fr.length sc, .int .i64 f, .int .i64 tt, .int .i64 n] 34)) (.cells #[] 23)).obj (fun e => e) OW.out) rfl
        have r4 := cell_of (o := 4) ((k4.trans (chg_alloc (fun _ => False) (w3.alloc (.cells #[.int .i64 ck, .int .u16 (sg : Int), .string sp, .slice sa fr.length sc, .int .i64 f, .int .i64 tt, .int .i64 n] 34)) (.cells #[] 23))).obj (fun e => e) O3.out) rfl
        have EMP := own_empty (w3.alloc (.cells #[.int .i64 ck, .int .u16 (sg : Int), .string sp, .slice sa fr.length sc, .int .i64 f, .int .i64 tt, .int .i64 n] 34)) (w3.heap.size + 1) 23 1 (by omega)
        rw [World.size_alloc] at EMP
        have EMP := Lib.hid EMP
        clear k4
        go_wp2_with (at_builtin; refine wpList_pushS rfl (.tmp 77) (.tmp 80) 32 rfl 23 1 16 Tryz.underlying32 Tryz.elemWord (w3.heap.size + 1) _ 0 [] rfl EMP.out sa fr.length sc (wcells fr) rfl ?a1 ?a2 ?a3 ?a4 ?a5 ?a6 ?a7 ?nx1)
        case a1 => first | (unfold wcells; simp; done) | (unfold wcells; rw [List.length_map]; omega)
        case a2 => exact SRC.out _ (K4.out.alloc _)
        case a3 =>
          intro e
          subst e
          have q := HNIL.out _ _ rfl
          exact ⟨List.eq_nil_of_length_eq_zero q.1, q.2⟩
        case a4 => exact wcells_one fr
        case a5 => omega
        case a6 => unfold maxLen; omega
        intro v5 w5 o5 g5
        try rw [Nat.zero_add] at o5
        obtain ⟨a5, c5, rfl⟩ := own_shape o5
        have kd := (chg_alloc (fun _ => False) (w3.alloc (.cells #[.int .i64 ck, .int .u16 (sg : Int), .string sp, .slice sa fr.length sc, .int .i64 f, .int .i64 tt, .int .i64 n] 34)) (.cells #[] 23)).grown g5 (fun j hj hl => by rw [World.size_alloc] at hl; simp [Value.ownBlock] at hj; omega)
        have O5 := Lib.hid (show w5.ownsRow (w3.heap.size + 1) 23 1 (.slice a5 fr.length c5) fr.length (wcells fr) from by simpa using o5)
        have K5 := Lib.hid (K4.out.trans kd)
        have OB5 := Lib.hid (kd.obj (fun e => e) OW.out)
        clear o5 g5 kd OW p3 r4 K4 SRC EMP
        have p3 := cell_of (o := 3) OB5.out rfl
        have e3 := frozen_of (o := 3) OB5.out
        have kc6 := chg_cell w5 w3.heap.size 3 (.slice a5 fr.length c5)
        have OB6 := Lib.hid (show (w5.setCell ⟨w3.heap.size, 3, none⟩ (.slice a5 fr.length c5)).heap[w3.heap.size]? = some (.cells #[.int .i64 ck, .int .u16 (sg : Int), .string sp, .slice a5 fr.length c5, .int .i64 f, .int .i64 tt, .int .i64 n] 34 (0, 0)) from obj_setCell (o := 3) OB5.out _)
        have O6 := Lib.hid (own_chg O5.out kc6 (fun k hk e => by have := (O5.out.lt k hk).1; omega))
        have K6 := Lib.hid (K5.out.next (S := fun _ => False) kc6 (fun i hi e => by omega))
        have HGO := Lib.hid (show ∀ k, (.slice a5 fr.length c5 : Value).ownBlock = some k → w3.heap.size < k from fun k hk => (O5.out.lt k hk).1)
        have O6L := Lib.hid (show ∀ k, (.slice a5 fr.length c5 : Value).ownBlock = some k → k < (w5.setCell ⟨w3.heap.size, 3, none⟩ (.slice a5 fr.length c5)).heap.size from fun k hk => (O6.out.lt k hk).2)
        have q0 := cell_of (o := 0) OB6.out rfl
        have q1 := cell_of (o := 1) OB6.out rfl
        have q2 := cell_of (o := 2) OB6.out rfl
        have q3 := cell_of (o := 3) OB6.out rfl
        have q4 := cell_of (o := 4) OB6.out rfl
        have q5 := cell_of (o := 5) OB6.out rfl
        have q6 := cell_of (o := 6) OB6.out rfl
        have B6 := Lib.hid (B3.out.chg K6.out)
        have C6 := Lib.hid (C3.out.chg K6.out (fun _ _ e => e))
        have A6 := Lib.hid (K6.out.obj (fun e => e) O3.out)
        have BL := Lib.hid (show ∀ k, B k → k < w3.heap.size from fun k hk => B3.out.st.lt hk)
        have RL := Lib.hid (show ∀ k, R k → k < w3.heap.size from fun k hk => B3.out.rf.lt hk)
        have QL : q < w3.heap.size := lt_of_obj O3.out
        have SP := sput_any (w5.setCell ⟨w3.heap.size, 3, none⟩ (.slice a5 fr.length c5)) b B s (⟨ck, sg, sp, fr, f, tt, n⟩ : BCert) a5 c5 (fun k => (.slice a5 fr.length c5 : Value).ownBlock = some k) B6.out.st ⟨setAt_own O6.out C3.out.sizes, C3.out.sp, C3.out.sg⟩ (fun k hk => ⟨(O6.out.lt k hk).2, fun e => by have := BL.out k e; have := HGO.out k hk; omega⟩) (by omega) (by omega)
        obtain ⟨pl1, pl2⟩ := putS_le s (⟨ck, sg, sp, fr, f, tt, n⟩ : BCert)
        have RP := Lib.hid (fun W (rf : RefS W rb R s) (hc : CertAt W (.slice sa fr.length sc) (· < w.heap.size) (⟨ck, sg, sp, fr, f, tt, n⟩ : BCert)) (hl : w.heap.size ≤ W.heap.size) => rsput_any W rb R s (⟨ck, sg, sp, fr, f, tt, n⟩ : BCert) sa sc (· < w.heap.size) rf hc (fun k hk => by omega) (by simp only; omega) (fun x hx => by have := FIT.out.2.2 x hx; omega) (by simp only; omega) C3.out.sizes (by omega) (by omega))
        have QQ := Lib.hid (show ∃ r, r = putS s (⟨ck, sg, sp, fr, f, tt, n⟩ : BCert) from ⟨_, rfl⟩)
        unfold PutRes at SP
        unfold certV at SP
        have SP := Lib.hid SP
        clear kc6 K5 OB5 O5 B3 C3 O3
        go_wp2_with fail
        clear p3 e3 q0 q1 q2 q3 q4 q5 q6 d1 d2 d3 d4 d5 d6 d7 d8
        generalize w5.setCell ⟨w3.heap.size, 3, none⟩ (.slice a5 fr.length c5) = w6 at *
        (with_reducible refine (SP.out).mono ?_)
        rintro e w7 ⟨B7, rfl, h7, k7, hb7⟩
        have BB7 := Lib.hid (And.intro h7 (And.intro k7 hb7))
        have A7 := Lib.hid (k7.obj NBQ.out.1 A6.out)
        have C7 := Lib.hid (C6.out.chg k7 (fun k hk e => by have := B6.out.bB k e; omega))
        have RF7 := Lib.hid (B6.out.rf.chg k7 (fun k hk e => B6.out.sep k hk e))
        have OB7 := Lib.hid (k7.obj (fun e => by have := BL.out _ e; omega) OB6.out)
        have O7 := Lib.hid (own_chg O6.out k7 (fun k hk e => by have := BL.out k e; have := HGO.out k hk; omega))
        have hs7 : w6.heap.size ≤ w7.heap.size := k7.size
        have hw6 : w3.heap.size ≤ w6.heap.size := K6.out.size
        have RP7 := RP.out w7 RF7.out C7.out (by omega)
        unfold RPutRes at RP7
        unfold certV at RP7
        have RP7 := Lib.hid RP7
        clear SP RP h7 k7 hb7 A6 C6 OB6 O6 QQ
        have d1 := cell_of (o := 1) A7.out rfl
        have d2 := cell_of (o := 2) A7.out rfl
        have d3 := cell_of (o := 3) A7.out rfl
        have d4 := cell_of (o := 4) A7.out rfl
        have d5 := cell_of (o := 5) A7.out rfl
        have d6 := cell_of (o := 6) A7.out rfl
        have d7 := cell_of (o := 7) A7.out rfl
        have d8 := cell_of (o := 8) A7.out rfl
        go_wp2_with fail
        (with_reducible refine (RP7.out).mono ?_)
        rintro e w8 ⟨R8, rfl, h8, k8, hr8⟩
        have B8 := Lib.hid (B6.out.step BB7.out.1 BB7.out.2.1 BB7.out.2.2 h8 k8 hr8 (by have := B6.out.next; omega) (by have := B6.out.turn; omega))
        have A8 := Lib.hid (k8.obj NBQ.out.2.1 A7.out)
        have OB8 := Lib.hid (k8.obj (fun e => by have := RL.out _ e; omega) OB7.out)
        have O8 := Lib.hid (own_chg O7.out k8 (fun k hk e => by have := RL.out k e; have := HGO.out k hk; omega))
        have NB8 := Lib.hid (show ∀ k, (.slice a5 fr.length c5 : Value).ownBlock = some k → ¬ B7 k ∧ ¬ R8 k from fun k hk => by
          have h1 := HGO.out k hk
          have h2 := O6L.out k hk
          refine ⟨fun e => ?_, fun e => ?_⟩
          · rcases BB7.out.2.2 k e with z | z
            · have := BL.out k z; omega
            · omega
          · rcases hr8 k e with z | z
            · have := RL.out k z; omega
            · omega)
        generalize putS s (⟨ck, sg, sp, fr, f, tt, n⟩ : BCert) = res at *
        obtain ⟨ri, re, s8⟩ := res
        simp only at B8 ⊢
        have z1 : ((ri : Int) != (ri : Int)) = false := by simp
        have z2 : ((re : Int) != (re : Int)) = false := by simp
        have z3 : (ri != ri) = false := by simp
        have z4 : (re != re) = false := by simp
        clear RP7 h8 k8 hr8 BB7 A7 C7 RF7 OB7 O7 d1 d2 d3 d4 d5 d6 d7 d8 B6
        obtain ⟨g', hg'⟩ : ∃ g', 0 < fr.length → a5 = some ⟨g', 0, none⟩ ∧ ∃ cs, w8.heap[g']? = some (.cells cs 23 (0, 0)) ∧ fr.length ≤ cs.size := by
          by_cases h : 0 < fr.length
          · obtain ⟨g, cs, h1, _, h2, h3⟩ := own_row1 O8.out h
            exact ⟨g, fun _ => ⟨h1, cs, h2, h3⟩⟩
          · exact ⟨0, fun q => (h q).elim⟩
        have HG := Lib.hid hg'
        have m3 := cell_of (o := 3) OB8.out rfl
        clear hg'
        go_wp2
        go_loopw [107] (fun iv wr => ∃ j : Nat, j ≤ fr.length ∧ iv = .int .i64 j ∧ Hid (Chg (fun k => (.slice a5 fr.length c5 : Value).ownBlock = some k) w8 wr ∧ (0 < fr.length → ∃ cs, wr.heap[g']? = some (.cells cs 23 (0, 0)) ∧ fr.length ≤ cs.size))) (fun iv _ => fr.length - (intOf iv).toNat)
        case atStart => exact ⟨0, by omega, rfl, Lib.hid ⟨Chg.refl _ _, fun h => (HG.out h).2⟩⟩
        case round =>
          obtain ⟨j, hj, rfl, HJ⟩ := hrel
          have y1 := cell_of (o := 3) (HJ.out.1.obj (fun e => by have := HGO.out _ e; omega) OB8.out) rfl
          clear m3
          by_cases hlt : j < fr.length
          · as_aux_lemma =>
            obtain ⟨ea, _⟩ := HG.out (by omega)
            obtain ⟨cs, hcs, hn⟩ := HJ.out.2 (by omega)
            obtain ⟨old, c0⟩ := cells_cell hcs (o := j) (by omega)
            have f0 := frozen_of (o := j) hcs
            have NX := Lib.hid (show Chg (fun k => (.slice a5 fr.length c5 : Value).ownBlock = some k) w8 (wr.setCell ⟨g', j, none⟩ (.string ⟨#[63]⟩)) ∧ (0 < fr.length → ∃ cs, (wr.setCell ⟨g', j, none⟩ (.string ⟨#[63]⟩)).heap[g']? = some (.cells cs 23 (0, 0)) ∧ fr.length ≤ cs.size) from
              ⟨HJ.out.1.trans ((chg_cell wr g' j _).mono (fun k _ e => by rw [e, ea]; rfl)), fun _ => by
                obtain ⟨cs', h1, h2⟩ := cells_set hcs j (.string ⟨#[63]⟩)
                exact ⟨cs', h1, by omega⟩⟩)
            subst ea
            clear hcs HJ
            go_wp2
            go_roundw
            case rel => exact ⟨j + 1, by omega, by go_num, NX⟩
            case measure => simp [intOf]; omega
          · obtain rfl : j = fr.length := by omega
            have BX := Lib.hid (B8.out.write HJ.out.1 (fun k hk => NB8.out k hk) (fun k hk => by have := HGO.out k hk; omega))
            have AX := Lib.hid (HJ.out.1.obj (fun e => by have := HGO.out _ e; omega) A8.out)
            clear HJ
            go_wp2
            go_meet
            case rel => exact ⟨s8, B7, R8, BX.out, AX.out⟩
      · have g5 : (kind == 0) = false := beq_eq_false_iff_ne.2 hk0
        by_cases hk1 : kind = 1
        · subst hk1
          as_aux_lemma =>
          have SW := sweep_any w3.drew b B s T (B3.out.st.chg (chg_drew (fun _ => False) w3) (fun _ _ e => e)) (by omega) (by omega)
          have QW := Lib.hid (fun W (rf : RefS W rb R s) => rsweep_any W rb R s T rf (by omega))
          obtain ⟨pl1, pl2⟩ := sweepS_le s T
          have gl1 : (s.gone T).length ≤ 1000 := Nat.le_trans (which_len s _) (by have := B3.out.st.inv.len; have := B3.out.st.inv.room2; omega)
          unfold SweepRes at SW
          have SW := Lib.hid SW
          have S0 := Lib.hid (fun (W : World) (ob : W.heap[q]? = some (.cells #[.int .i64 1, .int .i64 ck, .int .u16 (sg : Int), .string sp, .slice sa fr.length sc, .int .i64 f, .int .i64 tt, .int .i64 n, .int .i64 T] 36 (0, 0))) => show W.cell? ⟨q, 8, none⟩ = some (.int .i64 T) from cell_of (o := 8) ob rfl)
          go_wp2_with fail
          refine wp_region_plan (N := 259) [.rd [0, 1, 2, 4, 5, 6], .ef 3, .ef 7, .ef 8, .rd [9]] (fun W => W.cell? ⟨q, 8, none⟩ = some (.int .i64 T)) (by kernel_rfl) (by kernel_rfl) (by kernel_rfl) (by kernel_rfl) (Nat.le_of_ble_eq_true rfl) (S0.out _ O3.out) ?_
          refine plan_rd (A := ?SA1) ?sh1 ?sh2
          case sh1 =>
            rintro w' z0 K hK
            simp only [opsAt, List.filterMap_cons, List.filterMap_nil, List.getElem?_toArray, List.getElem?_cons_succ, List.getElem?_cons_zero]
            repeat still_step
            refine wpStill_nil ?_
            exact hK
          have kd := chg_drew (fun _ => False) w3
          have BD := Lib.hid (B3.out.chg kd)
          have OD := Lib.hid (kd.obj (fun e => e) O3.out)
          clear kd B3 O3 C3 d0 d1 d2 d3 d4 d5 d6 d7 d8
          generalize w3.drew = wd at *
          refine plan_ef rfl ?_
          go_wp2_with fail
          (with_reducible refine (SW.out).mono ?_)
          rintro e w4 ⟨v4, B4, rfl, ho4, h4, k4, hb4, _⟩
          obtain ⟨a4, c4, rfl⟩ := own_shape ho4
          have BB4 := Lib.hid (And.intro h4 (And.intro k4 hb4))
          have O4 := Lib.hid (k4.obj NBQ.out.1 OD.out)
          have HO4 := Lib.hid ho4
          have QW4 := QW.out w4 (BD.out.rf.chg k4 (fun k hk e => BD.out.sep k hk e))
          unfold RSweepRes at QW4
          have QW4 := Lib.hid QW4
          have hs4 : wd.heap.size ≤ w4.heap.size := k4.size
          clear SW QW h4 k4 hb4 ho4 OD
          go_wp2_with fail
          refine ⟨S0.out _ O4.out, ?_⟩
          refine plan_ef rfl ?_
          go_wp2_with fail
          (with_reducible refine (QW4.out).mono ?_)
          rintro e w5 ⟨v5, R5, rfl, ho5, h5, k5, hr5⟩
          obtain ⟨a5, c5, rfl⟩ := own_shape ho5
          have B5 := Lib.hid (BD.out.step BB4.out.1 BB4.out.2.1 BB4.out.2.2 h5 k5 hr5 (by have := BD.out.next; omega) (by have := BD.out.turn; omega))
          have O5 := Lib.hid (k5.obj NBQ.out.2.1 O4.out)
          have IN := Lib.hid (ints15_any w5 a4 a5 c4 c5 _ _ _ (own_chg HO4.out k5 (fun k hk e => by have := (HO4.out.lt k hk).1; have := BD.out.rf.lt e; omega)) ho5 gl1)
          clear QW4 h5 k5 hr5 ho5 BB4 HO4 O4 BD
          go_wp2_with fail
          refine ⟨S0.out _ O5.out, ?_⟩
          refine plan_ef rfl ?_
          go_wp2_with fail
          (with_reducible refine (IN.out).mono ?_)
          rintro e w6 ⟨rfl, k6⟩
          have B6 := Lib.hid (B5.out.chg k6)
          have O6 := Lib.hid (k6.obj (fun e => e) O5.out)
          clear IN k6 B5 O5
          go_wp2_with fail
          refine ⟨S0.out _ O6.out, ?_⟩
          refine plan_rd (A := ?SA2) ?sh3 ?sh4
          case sh3 =>
            rintro w' z0 K hK
            simp only [opsAt, List.filterMap_cons, List.filterMap_nil, List.getElem?_toArray, List.getElem?_cons_succ, List.getElem?_cons_zero]
            repeat still_step
            refine wpStill_nil ?_
            exact hK
          refine plan_nil ?_
          go_wp2
          go_meet
          case rel => exact ⟨_, B4, R5, B6.out, O6.out⟩
        · have g6 : (kind == 1) = false := beq_eq_false_iff_ne.2 hk1
          go_wp2
          go_meet
          case rel => exact ⟨s, B, R, B3.out.more (Nat.le_succ _), O3.out⟩
    case rest =>
      as_aux_lemma =>
      obtain ⟨s', B', R', hbo, hob⟩ := hcut
      have B4 := Lib.hid hbo
      have O4 := Lib.hid hob
      clear hbo hob B3 O3 C3 NBQ FIT hf1 hf2 d0 d1 d2 d3 d4 d5 d6 d7 d8 hs3 hnx
      have d8 := cell_of (o := 8) O4.out rfl
      have kx := chg_alloc (fun _ => False) wc (.cells #[.int .i64 t, .int .i64 T] 2)
      have OX := Lib.hid (obj_alloc_new wc (.cells #[.int .i64 t, .int .i64 T] 2))
      have B5 := Lib.hid (B4.out.chg kx)
      clear kx B4 O4
      go_wp2_with fail
      generalize wc.alloc (.cells #[.int .i64 t, .int .i64 T] 2) = w5 at *
      generalize wc.heap.size = gx at *
      clear d8
      go_loopw [132] (fun iv wr => ∃ j : Nat, j ≤ 2 ∧ iv = .int .i64 j ∧ Hid (Chg (fun _ => False) w5 wr)) (fun iv _ => 2 - (intOf iv).toNat)
      case atStart => exact ⟨0, by omega, rfl, Lib.hid (Chg.refl _ _)⟩
      case round =>
        obtain ⟨j, hj, rfl, HK⟩ := hrel
        have BR := Lib.hid (B5.out.chg HK.out)
        have hsn : s'.next ≤ 1000000 := by have := BR.out.next; omega
        have hl200 : s'.certs.length ≤ 200 := Nat.le_trans BR.out.st.inv.len BR.out.st.inv.room2
        by_cases hj2 : j < 2
        · as_aux_lemma =>
          obtain ⟨u, hu⟩ : ∃ u, wr.cell? ⟨gx, j, none⟩ = some (.int .i64 u) := by
            rcases (by omega : j = 0 ∨ j = 1) with rfl | rfl
            · exact ⟨t, cell_of (o := 0) (HK.out.obj (fun e => e) OX.out) rfl⟩
            · exact ⟨T, cell_of (o := 1) (HK.out.obj (fun e => e) OX.out) rfl⟩
          have NE := next_any wr b B' s' u BR.out.st
          unfold NextRes at NE
          have NE := Lib.hid NE
          go_wp2_with fail
          clear hu
          (with_reducible refine (NE.out).mono ?_)
          rintro e wa ⟨n1, is1, rfl, hb1, ka⟩
          have Ba := Lib.hid (BR.out.chg ka)
          have Ka := Lib.hid (HK.out.trans ka)
          have H1 := Lib.hid hb1
          have NR := rborder_any wa rb R' s' u Ba.out.rf
          unfold NextRes at NR
          have NR := Lib.hid NR
          clear NE hb1 ka BR HK
          go_wp2_with fail
          (with_reducible refine (NR.out).mono ?_)
          rintro e wb ⟨n2, is2, rfl, hb2, kb⟩
          obtain ⟨rfl, rfl⟩ := H1.out.uniq hb2
          have Bb := Lib.hid (Ba.out.chg kb)
          have Kb := Lib.hid (Ka.out.trans kb)
          have VA := Lib.hid (valid_any wb b B' s' u Bb.out.st)
          clear NR hb2 kb Ba Ka H1
          go_wp2_with fail
          (with_reducible refine (VA.out).mono ?_)
          rintro e w6 ⟨v6, rfl, ho6, k6⟩
          obtain ⟨a6, c6, rfl⟩ := own_shape ho6
          have B6 := Lib.hid (Bb.out.chg k6)
          have K6 := Lib.hid (Kb.out.trans k6)
          have HO6 := Lib.hid ho6
          have VR := Lib.hid (rvalid_any w6 rb R' s' u B6.out.rf)
          clear VA ho6 k6 Bb Kb
          go_wp2_with fail
          (with_reducible refine (VR.out).mono ?_)
          rintro e w7 ⟨v7, rfl, ho7, k7⟩
          obtain ⟨a7, c7, rfl⟩ := own_shape ho7
          have B7 := Lib.hid (B6.out.chg k7)
          have K7 := Lib.hid (K6.out.trans k7)
          have IN := Lib.hid (ints15_any w7 a6 a7 c6 c7 _ _ _ (own_chg HO6.out k7 (fun _ _ e => e)) ho7 (Nat.le_trans (which_len s' _) (by omega)))
          clear VR ho7 k7 B6 K6 HO6
          go_wp2_with fail
          (with_reducible refine (IN.out).mono ?_)
          rintro e w8 ⟨rfl, k8⟩
          have B8 := Lib.hid (B7.out.chg k8)
          have K8 := Lib.hid (K7.out.trans k8)
          have z1 : (n1 != n1) = false := by simp
          have z2 : (is1 != is1) = false := by simp
          have CA := certs_any w8 b B' s' u B8.out.st hsn
          unfold CertsRes at CA
          have CA := Lib.hid CA
          clear IN k8 B7 K7
          go_wp2_with fail
          (with_reducible refine (CA.out).mono ?_)
          rintro e w9 ⟨v9, xs, rfl, hcr, hxm, k9⟩
          have B9 := Lib.hid (B8.out.chg k9)
          have K9S := Lib.hid k9.size
          have K89 := Lib.hid k9
          have K98 := Lib.hid K8.out
          have K9 := Lib.hid (K8.out.trans k9)
          have HCR := Lib.hid hcr
          have HXM := Lib.hid (hxm.trans (certsOf_which B8.out.st.inv (fun c => holdsB c u)))
          have RLO := Lib.hid (show ∀ k, R' k → k < w8.heap.size from fun k hk => B8.out.rf.lt hk)
          have CR := rcerts_any w9 rb R' s' u B9.out.rf
          unfold RCertsRes at CR
          have CR := Lib.hid CR
          clear CA hcr hxm k9 B8
          go_wp2_with fail
          (with_reducible refine (CR.out).mono ?_)
          rintro e wt ⟨vt, ys, rfl, hyr, hys, hym, kt⟩
          have BZ := Lib.hid (B9.out.chg kt)
          have KT := Lib.hid (K9.out.trans kt)
          obtain ⟨pa0, pc0, rfl⟩ := own_shape HCR.out.row
          obtain ⟨qa0, qc0, rfl⟩ := own_shape hyr
          have LK := Lib.hid (show Look w8 wt (.slice pa0 xs.length pc0) (.slice qa0 ys.length qc0) xs ys R' w8.heap.size 0 from
            ⟨own_chg HCR.out.row kt (fun _ _ e => e), fun i p _ hp => own_chg (HCR.out.ent p (List.mem_of_getElem? hp)) kt (fun _ _ e => e), HCR.out.sep, own_base hyr K9S.out, hys, RLO.out, K89.out.trans kt, Nat.le_refl _⟩)
          have EQ := Lib.hid (show xs.map Prod.fst = ys.map Prod.fst from HXM.out.trans hym.symm)
          have hlen : ys.length = xs.length := by
            have := congrArg List.length EQ.out
            simpa using this.symm
          have hxl : xs.length ≤ 200 := by
            have := congrArg List.length HXM.out
            rw [List.length_map, List.length_map] at this
            have h2 := List.length_filter_le (fun q : Nat × BCert => holdsB q.2 u) s'.certs
            omega
          have OKC := Lib.hid (show ∀ (i : Nat) p, xs[i]? = some p → certB p.1 = true from fun i p hp => by
            have h1 : p.1 ∈ xs.map Prod.fst := List.mem_map.2 ⟨p, List.mem_of_getElem? hp, rfl⟩
            rw [HXM.out] at h1
            obtain ⟨q, hq, e⟩ := List.mem_map.1 h1
            rw [← e]
            exact BZ.out.st.inv.ok q (List.mem_filter.1 hq).1)
          rw [hlen] at LK ⊢
          have HLN := Lib.hid hlen
          clear CR hyr hys hym kt HCR HXM RLO B9 K9 hlen K8 K9S K89
          go_wp2_with fail
          go_loopw [179] (fun iv wr => ∃ m : Nat, m ≤ xs.length ∧ iv = .int .i64 m ∧ Hid (Look w8 wr (.slice pa0 xs.length pc0) (.slice qa0 xs.length qc0) xs ys R' w8.heap.size m)) (fun iv _ => xs.length - (intOf iv).toNat)
          case atStart => exact ⟨0, by omega, rfl, LK⟩
          case round =>
            obtain ⟨m, hm, rfl, HL⟩ := hrel
            clear LK
            by_cases hmlt : m < xs.length
            · as_aux_lemma =>
              obtain ⟨⟨c, pv⟩, hxj⟩ : ∃ p, xs[m]? = some p := ⟨_, List.getElem?_eq_getElem hmlt⟩
              obtain ⟨qv, hyj⟩ := map_get EQ.out hxj
              have hcb := OKC.out m _ hxj
              have hfr1 : 1 ≤ c.fr.length := by
                obtain ⟨q, _⟩ := of_decide_eq_true (certB_may hcb).fr
                rwa [lists_len] at q
              have hent := HL.out.ent m _ (Nat.le_refl _) hxj
              obtain ⟨pa, pcap, epv⟩ := own_shape hent
              obtain ⟨qa, qcap, eqv, hcq⟩ := HL.out.sets _ (List.mem_of_getElem? hyj)
              simp only at epv eqv hcq hent
              subst epv eqv
              obtain ⟨gp, ep⟩ := own_some hent (by omega)
              subst ep
              obtain ⟨gs, cs, e3, hbg, hcs, hcn⟩ := own_row1 hent (by omega)
              cases e3
              obtain ⟨g1, e1, p0, p1, p2, p3, p4, p5, p6⟩ := row_cert HL.out.a hxj
              obtain ⟨g2, e2, q0, q1, q2, q3, q4, q5, q6⟩ := row_cert HL.out.b hyj
              subst e1 e2
              have SA := Lib.hid (fun W (kw : Chg (fun _ => False) wr W) => same8_any W c (some ⟨gp, 0, none⟩) qa pcap qcap _ R' (show CertAt W (.slice (some ⟨gp, 0, none⟩) c.fr.length pcap) (fun k => (Value.slice (some ⟨gp, 0, none⟩) c.fr.length pcap).ownBlock = some k) c from ⟨setAt_own (own_chg hent kw (fun _ _ e => e)) hcq.sizes, hcq.sp, hcq.sg⟩) (hcq.chg kw (fun _ _ e => e)))
              have WR := Lib.hid (fun W (kw : Chg (fun _ => False) wr W) => (HL.out.chg kw).write (o := 0) (x := .string ⟨#[63]⟩) hxj rfl)
              have OBJ := Lib.hid (And.intro hcs hcn)
              obtain ⟨ck2, sg2, sp2, fr2, f2, t2, n2⟩ := c
              unfold certV at SA
              simp only at p0 p1 p2 p3 p4 p5 p6 q0 q1 q2 q3 q4 q5 q6 SA hfr1 OBJ WR
              have DD := Lib.hid (fun W (kw : Chg (fun _ => False) wr W) => show (W.cell? ⟨g1, m * 7, none⟩ = some (.int .i64 ck2) ∧ W.cell? ⟨g1, m * 7 + 1, none⟩ = some (.int .u16 (sg2 : Int)) ∧ W.cell? ⟨g1, m * 7 + 2, none⟩ = some (.string sp2) ∧ W.cell? ⟨g1, m * 7 + 3, none⟩ = some (.slice (some ⟨gp, 0, none⟩) fr2.length pcap) ∧ W.cell? ⟨g1, m * 7 + 4, none⟩ = some (.int .i64 f2) ∧ W.cell? ⟨g1, m * 7 + 5, none⟩ = some (.int .i64 t2) ∧ W.cell? ⟨g1, m * 7 + 6, none⟩ = some (.int .i64 n2)) ∧ W.cell? ⟨g2, m * 7, none⟩ = some (.int .i64 ck2) ∧ W.cell? ⟨g2, m * 7 + 1, none⟩ = some (.int .u16 (sg2 : Int)) ∧ W.cell? ⟨g2, m * 7 + 2, none⟩ = some (.string sp2) ∧ W.cell? ⟨g2, m * 7 + 3, none⟩ = some (.slice qa fr2.length qcap) ∧ W.cell? ⟨g2, m * 7 + 4, none⟩ = some (.int .i64 f2) ∧ W.cell? ⟨g2, m * 7 + 5, none⟩ = some (.int .i64 t2) ∧ W.cell? ⟨g2, m * 7 + 6, none⟩ = some (.int .i64 n2) from ⟨⟨cell_chg kw (fun e => e) p0, cell_chg kw (fun e => e) p1, cell_chg kw (fun e => e) p2, cell_chg kw (fun e => e) p3, cell_chg kw (fun e => e) p4, cell_chg kw (fun e => e) p5, cell_chg kw (fun e => e) p6⟩, cell_chg kw (fun e => e) q0, cell_chg kw (fun e => e) q1, cell_chg kw (fun e => e) q2, cell_chg kw (fun e => e) q3, cell_chg kw (fun e => e) q4, cell_chg kw (fun e => e) q5, cell_chg kw (fun e => e) q6⟩)
              clear p0 p1 p2 p3 p4 p5 p6 q0 q1 q2 q3 q4 q5 q6 hent hcq hcs hcn hcb hxj hyj HL
              go_wp2_with fail
              refine wp_region_plan (N := 259) [.rd [0, 1, 2, 3, 4, 5, 6, 7], .ef 8, .rd [9]] (fun W => (W.cell? ⟨g1, m * 7, none⟩ = some (.int .i64 ck2) ∧ W.cell? ⟨g1, m * 7 + 1, none⟩ = some (.int .u16 (sg2 : Int)) ∧ W.cell? ⟨g1, m * 7 + 2, none⟩ = some (.string sp2) ∧ W.cell? ⟨g1, m * 7 + 3, none⟩ = some (.slice (some ⟨gp, 0, none⟩) fr2.length pcap) ∧ W.cell? ⟨g1, m * 7 + 4, none⟩ = some (.int .i64 f2) ∧ W.cell? ⟨g1, m * 7 + 5, none⟩ = some (.int .i64 t2) ∧ W.cell? ⟨g1, m * 7 + 6, none⟩ = some (.int .i64 n2)) ∧ W.cell? ⟨g2, m * 7, none⟩ = some (.int .i64 ck2) ∧ W.cell? ⟨g2, m * 7 + 1, none⟩ = some (.int .u16 (sg2 : Int)) ∧ W.cell? ⟨g2, m * 7 + 2, none⟩ = some (.string sp2) ∧ W.cell? ⟨g2, m * 7 + 3, none⟩ = some (.slice qa fr2.length qcap) ∧ W.cell? ⟨g2, m * 7 + 4, none⟩ = some (.int .i64 f2) ∧ W.cell? ⟨g2, m * 7 + 5, none⟩ = some (.int .i64 t2) ∧ W.cell? ⟨g2, m * 7 + 6, none⟩ = some (.int .i64 n2)) (by kernel_rfl) (by kernel_rfl) (by kernel_rfl) (by kernel_rfl) (Nat.le_of_ble_eq_true rfl) (DD.out wr (Chg.refl _ _)) ?_
              refine plan_rd (A := ?MA1) ?mh1 ?mh2
              case mh1 =>
                rintro w' ⟨⟨z0, z1, z2, z3, z4, z5, z6⟩, z7, z8, z9, z10, z11, z12, z13⟩ K hK
                simp only [opsAt, List.filterMap_cons, List.filterMap_nil, List.getElem?_toArray, List.getElem?_cons_succ, List.getElem?_cons_zero]
                repeat still_step
                refine wpStill_nil ?_
                exact hK
              have KD := Lib.hid (chg_drew (fun _ => False) wr)
              have SD := Lib.hid (SA.out wr.drew KD.out)
              generalize wr.drew = wd at *
              refine plan_ef rfl ?_
              go_wp2_with fail
              (with_reducible refine (SD.out).mono ?_)
              rintro e we ⟨rfl, ke⟩
              have KE := Lib.hid (KD.out.trans ke)
              clear SD SA ke KD
              go_wp2_with fail
              refine ⟨DD.out _ KE.out, ?_⟩
              refine plan_rd (A := ?MA2) ?mh3 ?mh4
              case mh3 =>
                rintro w' ⟨⟨z0, z1, z2, z3, z4, z5, z6⟩, z7, z8, z9, z10, z11, z12, z13⟩ K hK
                simp only [opsAt, List.filterMap_cons, List.filterMap_nil, List.getElem?_toArray, List.getElem?_cons_succ, List.getElem?_cons_zero]
                repeat still_step
                refine wpStill_nil ?_
                exact hK
              refine plan_nil ?_
              obtain ⟨_, _, _, y3, _⟩ := (DD.out _ KE.out).1
              have hoe := KE.out.obj (fun e => e) OBJ.out.1
              obtain ⟨old, o0⟩ := cells_cell hoe (o := 0) (by have := OBJ.out.2; omega)
              have f0 := frozen_of (o := 0) hoe
              have NX := Lib.hid (WR.out we KE.out)
              clear WR DD KE hoe OBJ
              go_wp2
              go_roundw
              case rel => exact ⟨m + 1, by omega, by go_num, NX⟩
              case measure => simp [intOf]; omega
            · obtain rfl : m = xs.length := by omega
              have KF := Lib.hid (K98.out.trans HL.out.ch)
              clear HL
              go_wp2
              go_roundw
              case rel => exact ⟨j + 1, by omega, by go_num, KF⟩
              case measure => simp [intOf]; omega
        · as_aux_lemma =>
          obtain rfl : j = 2 := by omega
          clear B5 OX HK
          have hi := BR.out.rf.inv
          have AB := Lib.hid (fun W (q : Chg (fun _ => False) wr W) => about_any W b B' s' x (BR.out.st.chg q (fun _ _ e => e)) HX.out)
          have RA := fun W (q : Chg (fun _ => False) wr W) => rabout_any W rb R' s' x (BR.out.rf.chg q (fun _ _ e => e))
          simp only [← which_about] at RA
          have RA := Lib.hid RA
          have LN := Lib.hid (fun W (q : Chg (fun _ => False) wr W) => len_any W b B' s' (BR.out.st.chg q (fun _ _ e => e)))
          have TU := Lib.hid (fun W (q : Chg (fun _ => False) wr W) => turn_any W b B' s' (BR.out.st.chg q (fun _ _ e => e)))
          have hal := about_len hi x
          obtain ⟨ca, ccp, na, nc, us, GG, hin, _⟩ := BR.out.rf.open
          have S0 := Lib.hid (fun W (q : Chg (fun _ => False) wr W) => show W.cell? ⟨rb, 0, none⟩ = some (.slice ca s'.certs.length ccp) ∧ W.cell? ⟨rb, 4, none⟩ = some (.int .i64 (s'.turn : Int)) from ⟨cell_of (o := 0) (q.obj (fun e => e) hin.own) rfl, cell_of (o := 4) (q.obj (fun e => e) hin.own) rfl⟩)
          have y1 : ((s'.certs.length : Int) != (s'.certs.length : Int)) = false := by simp
          have y2 : (s'.certs.length != s'.certs.length) = false := by simp
          have y3 : ((s'.turn : Int) != (s'.turn : Int)) = false := by simp
          have y4 : (s'.turn != s'.turn) = false := by simp
          clear hi hin
          go_wp2_with fail
          refine wp_region_plan (N := 259) [.rd [0, 1, 3, 4], .ef 2, .ef 5, .ef 6, .rd [7, 8, 9, 11, 12, 13, 14, 15], .ef 10, .rd [16, 17, 18, 19, 21, 22, 23, 24], .ef 20, .rd [25, 26]] (fun W => W.cell? ⟨rb, 0, none⟩ = some (.slice ca s'.certs.length ccp) ∧ W.cell? ⟨rb, 4, none⟩ = some (.int .i64 (s'.turn : Int))) (by kernel_rfl) (by kernel_rfl) (by kernel_rfl) (by kernel_rfl) (Nat.le_of_ble_eq_true rfl) (S0.out _ (chg_drew (fun _ => False) wr)) ?_
          refine plan_rd (A := ?A1) ?h1 ?h2
          case h1 =>
            rintro w' ⟨z0, z1⟩ K hK
            simp only [opsAt, List.filterMap_cons, List.filterMap_nil, List.getElem?_toArray, List.getElem?_cons_succ, List.getElem?_cons_zero]
            repeat still_step
            refine wpStill_nil ?_
            exact hK
          have KD := Lib.hid (chg_drew (fun _ => False) wr)
          have AD := Lib.hid (AB.out _ KD.out)
          generalize wr.drew = wd at *
          refine plan_ef rfl ?_
          go_wp2_with fail
          (with_reducible refine (AD.out).mono ?_)
          rintro e we ⟨ve, rfl, hoe, ke⟩
          obtain ⟨ae, ce, rfl⟩ := own_shape hoe
          have HOE := Lib.hid hoe
          have KE := Lib.hid (KD.out.trans ke)
          have RE := Lib.hid (RA.out _ KE.out)
          clear AD AB RA hoe ke KD
          go_wp2_with fail
          refine ⟨S0.out _ KE.out, ?_⟩
          refine plan_ef rfl ?_
          go_wp2_with fail
          (with_reducible refine (RE.out).mono ?_)
          rintro e wf ⟨vf, rfl, hof, kf⟩
          obtain ⟨af, cf, rfl⟩ := own_shape hof
          have KF := Lib.hid (KE.out.trans kf)
          have IN := Lib.hid (ints15_any wf ae af ce cf _ _ _ (own_chg HOE.out kf (fun _ _ e => e)) hof (by omega))
          clear RE HOE hof kf KE
          go_wp2_with fail
          refine ⟨S0.out _ KF.out, ?_⟩
          refine plan_ef rfl ?_
          go_wp2_with fail
          (with_reducible refine (IN.out).mono ?_)
          rintro e wg ⟨rfl, kg⟩
          have KG := Lib.hid (KF.out.trans kg)
          have LG := Lib.hid (LN.out _ KG.out)
          clear IN kg KF LN
          go_wp2_with fail
          refine ⟨S0.out _ KG.out, ?_⟩
          refine plan_rd (A := ?A2) ?h3 ?h4
          case h3 =>
            rintro w' ⟨z0, z1⟩ K hK
            simp only [opsAt, List.filterMap_cons, List.filterMap_nil, List.getElem?_toArray, List.getElem?_cons_succ, List.getElem?_cons_zero]
            refine WS.out ?_
            repeat (refine ws_step (fun K hK => ?_); go_simp; refine hK _ ?_; clear hK K)
            refine ws_nil ?_
            exact hK
          refine plan_ef rfl ?_
          go_wp2_with fail
          (with_reducible refine (LG.out).mono ?_)
          rintro e wh ⟨rfl, rfl⟩
          have TG := Lib.hid (TU.out _ KG.out)
          clear LG TU
          go_wp2_with fail
          refine ⟨S0.out _ KG.out, ?_⟩
          refine plan_rd (A := ?A3) ?h5 ?h6
          case h5 =>
            rintro w' ⟨z0, z1⟩ K hK
            simp only [opsAt, List.filterMap_cons, List.filterMap_nil, List.getElem?_toArray, List.getElem?_cons_succ, List.getElem?_cons_zero]
            refine WS.out ?_
            repeat (refine ws_step (fun K hK => ?_); go_simp; refine hK _ ?_; clear hK K)
            refine ws_nil ?_
            exact hK
          refine plan_ef rfl ?_
          go_wp2_with fail
          (with_reducible refine (TG.out).mono ?_)
          rintro e wh ⟨rfl, rfl⟩
          go_wp2_with fail
          refine ⟨S0.out _ KG.out, ?_⟩
          refine plan_rd (A := ?A4) ?h7 ?h8
          case h7 =>
            rintro w' ⟨z0, z1⟩ K hK
            simp only [opsAt, List.filterMap_cons, List.filterMap_nil, List.getElem?_toArray, List.getElem?_cons_succ, List.getElem?_cons_zero]
            refine WS.out ?_
            repeat (refine ws_step (fun K hK => ?_); go_simp; refine hK _ ?_; clear hK K)
            refine ws_nil ?_
            exact hK
          refine plan_nil ?_
          have BG := Lib.hid (BR.out.chg KG.out)
          clear TG S0 KG BR y1 y2 y3 y4 hal hl200
          generalize wg = wz at *
          go_wp2_with fail
          go_loopw [28] (fun iv wr => ∃ m : Int, -1 ≤ m ∧ m ≤ (s'.next : Int) + 1 ∧ iv = .int .i64 m ∧ Hid (Both w wr b rb B' R' s' (k + 1))) (fun iv _ => ((s'.next : Int) + 1 - intOf iv).toNat)
          case atStart => exact ⟨-1, by omega, by omega, rfl, BG⟩
          case round =>
            obtain ⟨m, hm1, hm2, rfl, HB⟩ := hrel
            clear BG
            obtain ⟨ca, ccp, na, nc, us, GG, hin, _⟩ := HB.out.rf.open
            have r3 := cell_of (o := 3) hin.own rfl
            clear hin
            by_cases hmn : m ≤ (s'.next : Int)
            · have x1 : decide (m ≤ (s'.next : Int)) = true := decide_eq_true hmn
              have x2 : IntKind.i64.wrap (m + 1) = m + 1 := by rw [IntKind.wrap_i64]; omega
              have GE := get_any wr b B' s' m HB.out.st (by omega) (by omega)
              unfold GetRes at GE
              have GE := Lib.hid GE
              go_wp2_with fail
              clear r3
              (with_reducible refine (GE.out).mono ?_)
              rintro e wa ⟨⟨c, u, hg, rfl, hou⟩ | ⟨hg, rfl⟩, ka⟩
              · as_aux_lemma =>
                have Ba := Lib.hid (HB.out.chg ka)
                obtain ⟨pa, pcap, rfl⟩ := own_shape hou
                have HOU := Lib.hid hou
                have HG := Lib.hid hg
                clear GE ka HB hou hg
                obtain ⟨ck2, sg2, sp2, fr2, f2, t2, n2⟩ := c
                unfold certV
                have kb := chg_alloc (fun _ => False) wa (.cells #[.int .i64 ck2, .int .u16 (sg2 : Int), .string sp2, .slice pa fr2.length pcap, .int .i64 f2, .int .i64 t2, .int .i64 n2] 34)
                have Bb := Lib.hid (Ba.out.chg kb)
                have O1 := Lib.hid (obj_alloc_new wa (.cells #[.int .i64 ck2, .int .u16 (sg2 : Int), .string sp2, .slice pa fr2.length pcap, .int .i64 f2, .int .i64 t2, .int .i64 n2] 34))
                have HOb := Lib.hid (own_chg HOU.out kb (fun _ _ e => e))
                have GR := rget_any (wa.alloc (.cells #[.int .i64 ck2, .int .u16 (sg2 : Int), .string sp2, .slice pa fr2.length pcap, .int .i64 f2, .int .i64 t2, .int .i64 n2] 34)) rb R' s' m Bb.out.rf
                unfold RGetRes at GR
                have GR := Lib.hid GR
                clear kb HOU Ba
                go_wp2_with fail
                generalize wa.alloc (.cells #[.int .i64 ck2, .int .u16 (sg2 : Int), .string sp2, .slice pa fr2.length pcap, .int .i64 f2, .int .i64 t2, .int .i64 n2] 34) = wb at *
                (with_reducible refine (GR.out).mono ?_)
                rintro e wd ⟨⟨c, qa, qcap, hg, rfl, hcq⟩ | ⟨hg, rfl⟩, kd⟩
                rotate_left
                · rw [HG.out] at hg; cases hg
                rw [HG.out] at hg
                cases hg
                unfold certV
                simp only at hcq
                have kc2 := chg_alloc (fun _ => False) wd (.cells #[.int .i64 ck2, .int .u16 (sg2 : Int), .string sp2, .slice qa fr2.length qcap, .int .i64 f2, .int .i64 t2, .int .i64 n2] 34)
                have Bd := Lib.hid ((Bb.out.chg kd).chg kc2)
                have P1 := Lib.hid (kc2.obj (fun e => e) (kd.obj (fun e => e) O1.out))
                have P2 := Lib.hid (obj_alloc_new wd (.cells #[.int .i64 ck2, .int .u16 (sg2 : Int), .string sp2, .slice qa fr2.length qcap, .int .i64 f2, .int .i64 t2, .int .i64 n2] 34))
                have SA := same8_any (wd.alloc (.cells #[.int .i64 ck2, .int .u16 (sg2 : Int), .string sp2, .slice qa fr2.length qcap, .int .i64 f2, .int .i64 t2, .int .i64 n2] 34)) ⟨ck2, sg2, sp2, fr2, f2, t2, n2⟩ pa qa pcap qcap (fun k => (Value.slice pa fr2.length pcap).ownBlock = some k) R' ⟨setAt_own (own_chg (own_chg HOb.out kd (fun _ _ e => e)) kc2 (fun _ _ e => e)) hcq.sizes, hcq.sp, hcq.sg⟩ (hcq.chg kc2 (fun _ _ e => e))
                unfold certV at SA
                have SA := Lib.hid SA
                clear GR kd kc2 Bb O1 HOb HG hcq
                have l0 := cell_of (o := 0) P1.out rfl
                have l1 := cell_of (o := 1) P1.out rfl
                have l2 := cell_of (o := 2) P1.out rfl
                have l3 := cell_of (o := 3) P1.out rfl
                have l4 := cell_of (o := 4) P1.out rfl
                have l5 := cell_of (o := 5) P1.out rfl
                have l6 := cell_of (o := 6) P1.out rfl
                have k0 := cell_of (o := 0) P2.out rfl
                have k1 := cell_of (o := 1) P2.out rfl
                have k2 := cell_of (o := 2) P2.out rfl
                have k3 := cell_of (o := 3) P2.out rfl
                have k4 := cell_of (o := 4) P2.out rfl
                have k5 := cell_of (o := 5) P2.out rfl
                have k6 := cell_of (o := 6) P2.out rfl
                go_wp2_with fail
                clear l0 l1 l2 l3 l4 l5 l6 k0 k1 k2 k3 k4 k5 k6
                generalize wd.alloc (.cells #[.int .i64 ck2, .int .u16 (sg2 : Int), .string sp2, .slice qa fr2.length qcap, .int .i64 f2, .int .i64 t2, .int .i64 n2] 34) = we at *
                (with_reducible refine (SA.out).mono ?_)
                rintro e wf ⟨rfl, kf⟩
                have Bf := Lib.hid (Bd.out.chg kf)
                clear SA kf Bd P1 P2
                go_wp2
                go_roundw
                case rel => exact ⟨m + 1, by omega, by omega, rfl, Bf⟩
                case measure => simp [intOf]; omega
              · as_aux_lemma =>
                have Ba := Lib.hid (HB.out.chg ka)
                have HG := Lib.hid hg
                clear GE ka HB hg
                unfold certV zeroC
                have kb := chg_alloc (fun _ => False) wa (.cells #[.int .i64 0, .int .u16 0, .string ⟨#[]⟩, .slice none 0 0, .int .i64 0, .int .i64 0, .int .i64 0] 34)
                have Bb := Lib.hid (Ba.out.chg kb)
                have GR := rget_any (wa.alloc (.cells #[.int .i64 0, .int .u16 0, .string ⟨#[]⟩, .slice none 0 0, .int .i64 0, .int .i64 0, .int .i64 0] 34)) rb R' s' m Bb.out.rf
                unfold RGetRes at GR
                have GR := Lib.hid GR
                clear kb Ba
                go_wp2_with fail
                generalize wa.alloc (.cells #[.int .i64 0, .int .u16 0, .string ⟨#[]⟩, .slice none 0 0, .int .i64 0, .int .i64 0, .int .i64 0] 34) = wb at *
                (with_reducible refine (GR.out).mono ?_)
                rintro e wd ⟨⟨c, qa, qcap, hg, rfl, hcq⟩ | ⟨hg, rfl⟩, kd⟩
                · rw [HG.out] at hg; cases hg
                unfold certV zeroC
                have kc2 := chg_alloc (fun _ => False) wd (.cells #[.int .i64 0, .int .u16 0, .string ⟨#[]⟩, .slice none 0 0, .int .i64 0, .int .i64 0, .int .i64 0] 34)
                have Bd := Lib.hid ((Bb.out.chg kd).chg kc2)
                clear GR kd kc2 Bb HG hg
                go_wp2
                go_roundw
                case rel => exact ⟨m + 1, by omega, by omega, rfl, Bd⟩
                case measure => simp [intOf]; omega
            · obtain rfl : m = (s'.next : Int) + 1 := by omega
              have x1 : decide ((s'.next : Int) + 1 ≤ (s'.next : Int)) = false := decide_eq_false (by omega)
              go_wp2
              go_roundw
              case rel => exact ⟨k + 1, s', B', R', by omega, by omega, by go_num, HB⟩
              case measure => simp [intOf]; omega
end Go.Proofs.YtdgmjablkdemmaaGreat
