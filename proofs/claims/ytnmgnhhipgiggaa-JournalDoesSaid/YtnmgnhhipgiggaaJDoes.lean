/-
  Layer 20: JournalDoes: the program's device and the reference's, over one plain model.
-/
import Derived.Test.YtnmgnhhipgiggaaJRef9
import Derived.Test.YtnmgnhhipgiggaaJDead
import Derived.Deep.DeepCutAuto
import Derived.Deep.CutBlock
namespace Go.Proofs.Ytnmgnhhipgiggaa
open Go.RowKit

structure JrOk (j : Jr) : Prop where
  half : j.half ≤ 1
  lo : -9223372036854775808 ≤ j.number
  hi : j.number ≤ 9223372036854775807
theorem jrOk_open {d : Dev} (h : ¬ d.bad) : JrOk ⟨hnum d.hd, hhalf d.hd, ⟨d.text.toArray⟩⟩ :=
  ⟨by show hhalf d.hd ≤ 1; unfold Dev.bad at h; omega, (hnum_range _).1, (hnum_range _).2⟩
theorem jrOk_commit (d : Dev) {j : Jr} (h : JrOk j) (s : ByteArray) : JrOk (commit d j s).2.2 := by
  have h1 := h.half
  have h2 := h.lo
  have h3 := h.hi
  unfold commit
  split
  · exact h
  split
  · exact h
  split
  · exact h
  rename_i hn
  dsimp only
  split
  · exact h
  split
  · exact h
  split
  · exact h
  · exact ⟨by show 1 - j.half ≤ 1; omega, by show _ ≤ j.number + 1; omega, by show j.number + 1 ≤ _; omega⟩
/-- Where the two sides' blocks lie. -/
structure Lies (o : Nat) (B : DB) (R : RB) : Prop where
  nb : B.n = R.n
  ob : ∀ k, B.S k → ¬ k < o
  or : ∀ k, R.S k → ¬ k < o
  ap : ∀ k, B.S k → ¬ R.S k
/-- The two journals: none, or one that reads as the other. -/
def JBoth (o : Nat) (w : World) (B : DB) (R : RB) (jv kv : Value) : Prop :=
  (jv = .pointer none ∧ kv = .pointer none) ∨
  ∃ b c j, jv = .pointer (some ⟨b, 0, none⟩) ∧ kv = .pointer (some ⟨c, 0, none⟩) ∧ JAt w B b j ∧ RJAt w R c j ∧ JrOk j ∧ b ≠ c ∧ ¬ B.S b ∧ ¬ R.S b ∧ ¬ B.S c ∧ ¬ R.S c ∧ ¬ b < o ∧ ¬ c < o
structure Both (o : Nat) (w : World) (B : DB) (R : RB) (d : Dev) (jv kv : Value) : Prop where
  db : DevAt w B d
  dr : RDevAt w R d
  jj : JBoth o w B R jv kv
theorem JBoth.chg {S : Nat → Prop} {o : Nat} {w w' : World} {B : DB} {R : RB} {jv kv : Value} (h : JBoth o w B R jv kv) (hc : Chg S w w') (hs : ∀ k, ¬ k < o → ¬ B.S k → ¬ R.S k → k < w.heap.size → ¬ S k) : JBoth o w' B R jv kv := by
  rcases h with h | ⟨b, c, j, h1, h2, h3, h4, h5, h6, h7, h8, h9, h10, h11, h12⟩
  · exact .inl h
  · exact .inr ⟨b, c, j, h1, h2, h3.chg hc (hs b h11 h7 h8 (lt_of_obj h3.hb)), h4.chg hc (hs c h12 h9 h10 (lt_of_obj h4.hb)), h5, h6, h7, h8, h9, h10, h11, h12⟩
theorem Both.chg {o : Nat} {w w' : World} {B : DB} {R : RB} {d : Dev} {jv kv : Value} (h : Both o w B R d jv kv) (hc : Chg (fun _ => False) w w') : Both o w' B R d jv kv :=
  ⟨h.db.chg hc (fun _ _ e => e), h.dr.chg hc (fun _ _ e => e), h.jj.chg hc (fun _ _ _ _ _ e => e)⟩

theorem Both.dev {o : Nat} {w w1 w2 : World} {B : DB} {R : RB} {d d' : Dev} {jv kv : Value} (L : Lies o B R) (h : Both o w B R d jv kv) (h1 : DevAt w1 B d') (k1 : Chg B.S w w1) (h2 : RDevAt w2 R d') (k2 : Chg R.S w1 w2) : Both o w2 B R d' jv kv :=
  ⟨h1.chg k2 L.ap, h2, (h.jj.chg k1 (fun _ _ hb _ _ => hb)).chg k2 (fun _ _ _ hr _ => hr)⟩
theorem Both.dr1 {o : Nat} {w w1 : World} {B : DB} {R : RB} {d : Dev} {jv kv : Value} (L : Lies o B R) (h : Both o w B R d jv kv) (k1 : Chg B.S w w1) : RDevAt w1 R d := h.dr.chg k1 (fun k hk e => L.ap k e hk)
/-- What a round of the law knows behind its act. -/
def Acted (o bx : Nat) (w0 : World) (B : DB) (R : RB) (kd nn : Int) (ss : ByteArray) (kv : Value) (jv kvv : Value) (w : World) : Prop :=
  ∃ d, Both o w B R d jv kvv ∧ Chg (fun k => ¬ k < o) w0 w ∧ w.heap[bx]? = some (.cells #[.int .i64 kd, .string ss, .int .i64 nn, kv] 37 (0, 0))

set_option maxHeartbeats 8000000 in
set_option maxRecDepth 100000 in
theorem does_law (w : World) (n : Int) (v : Value) (l : List ActV) (hv : ActsAt w v (· < w.heap.size) l) :
    Calls Try.prog 3 #[.int .i64 n, v] w fun e w' => e = .returned (.bool true) ∧ Chg (fun _ => False) w w' := by
  obtain ⟨la, cap, rfl, hl1, hl3⟩ := hv
  have HL3 := Lib.hid hl3
  clear hl3
  unfold maxLen at hl1
  go_enter Try.func3, Try.ntmps3
  go_wp2_with fail
  refine (awake_any w).mono ?_
  rintro e w1 ⟨rfl, c1⟩
  have C1 := Lib.hid c1
  clear c1
  by_cases hn : n < 3 ∨ 65 < n
  · go_wp2_with fail
    refine (device_none w1 n hn).mono ?_
    rintro e w' ⟨rfl, rfl⟩
    go_wp2_with fail
    refine (rdevice_none w1 n hn).mono ?_
    rintro e w' ⟨rfl, rfl⟩
    go_wp2
    go_ret
    exact ⟨rfl, C1.out⟩
  obtain ⟨N, rfl⟩ := Int.eq_ofNat_of_zero_le (show 0 ≤ n by omega)
  have h3 : 3 ≤ N := by omega
  have h65 : N ≤ 65 := by omega
  clear hn
  go_wp2_with fail
  refine (device_some w1 N h3 h65).mono ?_
  rintro e w2 ⟨B, rfl, hBn, d2, c2, l2⟩
  unfold DB.ptr
  have D2 := Lib.hid d2
  have C2 := Lib.hid c2
  have L2 := Lib.hid l2
  have HBn := Lib.hid hBn
  clear d2 c2 l2 hBn
  go_wp2_with fail
  refine (rdevice_some w2 N h3 h65).mono ?_
  rintro e w3 ⟨R, rfl, hRn, r3, c3, l3⟩
  unfold RB.ptr
  have R3 := Lib.hid r3
  have C3 := Lib.hid c3
  have L3 := Lib.hid l3
  have HRn := Lib.hid hRn
  clear r3 c3 l3 hRn
  have D3 := Lib.hid (D2.out.chg C3.out (fun _ _ e => e))
  go_wp2_with fail
  refine (open_any w3 B _ D3.out).mono ?_
  rintro e w4 (⟨hbad, _⟩ | ⟨hnb, b, rfl, j4, c4, hb1, hb2⟩)
  · exact absurd hbad (rep_new N h3).fine
  unfold jptr
  have J4 := Lib.hid j4
  have C4 := Lib.hid c4
  have R4 := Lib.hid (R3.out.chg c4 (fun _ _ e => e))
  have HJO := Lib.hid (jrOk_open hnb)
  clear j4 c4
  go_wp2_with fail
  refine (ropen_any w4 R _ R4.out).mono ?_
  rintro e w5 (⟨hbad, _⟩ | ⟨_, c, rfl, k5, c5, hc1, hc2⟩)
  · exact absurd hbad (rep_new N h3).fine
  unfold jptr
  have K5 := Lib.hid k5
  have C5 := Lib.hid c5
  clear k5 c5 hnb
  have LIES := Lib.hid (show Lies w.heap.size B R from ⟨by rw [HBn.out, HRn.out], fun k hk => by have := (L2.out k hk).1; have := C1.out.size; omega, fun k hk => by have := (L3.out k hk).1; have := C1.out.size; have := C2.out.size; omega, fun k hk hr => by have := (L2.out k hk).2; have := (L3.out k hr).1; omega⟩)
  have BOTH := Lib.hid (show Both w.heap.size w5 B R (Dev.new N) (.pointer (some ⟨b, 0, none⟩)) (.pointer (some ⟨c, 0, none⟩)) from by
    have z1 := C1.out.size
    have z2 := C2.out.size
    have z3 := C3.out.size
    have z4 := C4.out.size
    refine ⟨(D3.out.chg C4.out (fun _ _ e => e)).chg C5.out (fun _ _ e => e), R4.out.chg C5.out (fun _ _ e => e), .inr ⟨b, c, _, rfl, rfl, J4.out.chg C5.out (fun e => e), K5.out, HJO.out, by omega, ?_, ?_, ?_, ?_, by omega, by omega⟩⟩
    · intro e; have := (L2.out b e).2; omega
    · intro e; have := (L3.out b e).2; omega
    · intro e; have := (L2.out c e).2; omega
    · intro e; have := (L3.out c e).2; omega)
  have KW := Lib.hid (show Chg (fun k => ¬ k < w.heap.size) w w5 from ((C1.out.trans (C2.out.trans (C3.out.trans (C4.out.trans C5.out)))).mono (fun _ _ e => e.elim)))
  have hBN := HBn.out
  clear L2 L3 D2 D3 R3 R4 J4 K5 C1 C2 C3 C4 C5 hb1 hb2 hc1 hc2 HJO hBN HRn
  go_wp2
  go_loopw [7, 8, 9, 10, 11] (fun jv ev kv fv i wr => ∃ (k : Nat) (d : Dev) (ee : Int), i = .int .i64 k ∧ k ≤ 60 ∧ ev = .int .i64 ee ∧ fv = .int .i64 ee ∧ Both w.heap.size wr B R d jv kv ∧ Chg (fun k => ¬ k < w.heap.size) w wr) (fun _ _ _ _ i _ => 60 - (intOf i).toNat)
  case atStart => exact ⟨0, _, 0, rfl, by omega, rfl, rfl, BOTH.out, KW.out⟩
  case round =>
    as_aux_lemma =>
    obtain ⟨k, d, ee, rfl, hk60, rfl, rfl, hd, hc⟩ := hrel
    have HD := Lib.hid hd
    have HC := Lib.hid hc
    have hcw := hc.size
    clear hd hc BOTH KW
    by_cases hlt : k < l.length ∧ k < 60
    · obtain ⟨hlt1, hlt2⟩ := hlt
      obtain ⟨x, hx⟩ : ∃ x, l[k]? = some x := ⟨_, List.getElem?_eq_getElem hlt1⟩
      obtain ⟨lb, lo, rfl, hlb, a0, a1, a2, a3, hsz, hnr, hbo⟩ := HL3.out k x hx
      obtain ⟨kd, ss, nn, kv, keep⟩ := x
      simp only at a0 a1 a2 a3 hsz hnr hbo
      have b0 := cell_chg HC.out (fun e => e hlb) a0
      have b1 := cell_chg HC.out (fun e => e hlb) a1
      have b2 := cell_chg HC.out (fun e => e hlb) a2
      have b3 := cell_chg HC.out (fun e => e hlb) a3
      have HBO := Lib.hid hbo
      have hbo' := hbo
      obtain ⟨ka, kc, rfl, hkl, _⟩ := hbo'
      clear a0 a1 a2 a3 hx hbo
      by_cases hlg : 3000 < ss.size ∨ 200 < keep.length
      · have LG := Lib.hid (large_yes (wr.alloc (.cells #[.int .i64 kd, .string ss, .int .i64 nn, .slice ka keep.length kc] 37)) kd nn ss ka keep.length kc hsz hkl hlg)
        unfold maxLen at hsz hkl
        clear hlg
        go_wp2_with fail
        refine (LG.out).mono ?_
        rintro e w4 ⟨rfl, c4⟩
        have K4 := Lib.hid ((HC.out.alloc _).trans (c4.mono (fun _ _ e => e.elim)))
        clear c4
        go_wp2
        go_ret
        exact ⟨rfl, K4.out.mono (fun k hk e => e hk)⟩
      · have LG := Lib.hid (large_no (wr.alloc (.cells #[.int .i64 kd, .string ss, .int .i64 nn, .slice ka keep.length kc] 37)) kd nn ss ka keep.length kc (by omega) (by omega))
        unfold maxLen at hsz hkl
        have hs3 : ss.size ≤ 3000 := by omega
        clear hlg
        go_wp2_with fail
        refine (LG.out).mono ?_
        rintro e w4 ⟨rfl, c4⟩
        have k4 := (chg_alloc (fun _ => False) wr (.cells #[.int .i64 kd, .string ss, .int .i64 nn, .slice ka keep.length kc] 37)).trans c4
        have D4 := Lib.hid (HD.out.chg k4)
        have K4 := Lib.hid (HC.out.trans (k4.mono (fun _ _ e => e.elim)))
        have X4 := Lib.hid (c4.obj (fun e => e) (obj_alloc_new wr (.cells #[.int .i64 kd, .string ss, .int .i64 nn, .slice ka keep.length kc] 37)))
        have hxB : ¬ B.S wr.heap.size := fun e => by have := HD.out.db.lt e; omega
        have hxR : ¬ R.S wr.heap.size := fun e => by have := HD.out.dr.lt e; omega
        have x0 : w4.cell? ⟨wr.heap.size, 0, none⟩ = some (.int .i64 kd) := cell_of X4.out rfl
        have x1 : w4.cell? ⟨wr.heap.size, 1, none⟩ = some (.string ss) := cell_of X4.out rfl
        have x2 : w4.cell? ⟨wr.heap.size, 2, none⟩ = some (.int .i64 nn) := cell_of X4.out rfl
        have x3 : w4.cell? ⟨wr.heap.size, 3, none⟩ = some (.slice ka keep.length kc) := cell_of X4.out rfl
        have hxo : ¬ wr.heap.size < w.heap.size := by omega
        generalize wr.heap.size = bx at *
        clear k4 c4 b0 b1 b2 b3 LG HD HC
        go_upto_block 2 with fail
        go_cut [7] (fun jv wc => jv = u7 ∧ Acted w.heap.size bx w B R kd nn ss (.slice ka keep.length kc) u7 u9 wc)
        case first =>
          as_aux_lemma =>
          have L := LIES.out
          by_cases e0 : kd = 0
          · subst e0
            rcases D4.out.jj with ⟨rfl, rfl⟩ | ⟨b, c, j, rfl, rfl, ja, ra, jo, hbc, s1, s2, s3, s4, s5, s6⟩
            · clear L
              go_wp2_with fail
              go_meet
              case rel => exact ⟨rfl, d, D4.out, K4.out, X4.out⟩
            · as_aux_lemma =>
              have LL := Lib.hid L
              have hbb : bx ≠ b := fun e => by have := X4.out.symm.trans (e ▸ ja.hb); simp [jcells, DB.ptr] at this
              have hbc2 : bx ≠ c := fun e => by have := X4.out.symm.trans (e ▸ ra.hb); simp [rjcells, RB.ptr] at this
              have k5 := chg_drew (fun _ => False) w4
              have COM := Lib.hid (commit_any w4.drew B b d j ss (D4.out.db.chg k5 (fun _ _ e => e)) (ja.chg k5 (fun e => e)) s1 jo.half jo.lo jo.hi (by unfold maxLen; omega))
              have RCOM := Lib.hid (fun w6 (h1 : RDevAt w6 R d) (h2 : RJAt w6 R c j) => rcommit_any w6 R c d j ss h1 h2 s4 jo.half jo.lo jo.hi (by unfold maxLen; omega))
              have JO := Lib.hid (jrOk_commit d jo ss)
              have R5 := Lib.hid (D4.out.dr.chg k5 (fun _ _ e => e))
              have RJ5 := Lib.hid (ra.chg k5 (fun e => e))
              have X5 := Lib.hid (k5.obj (fun e => e) X4.out)
              have K5 := Lib.hid K4.out.drew
              clear ja ra jo L k5 X4 K4
              generalize commit d j ss = Z at *
              unfold jptr at COM RCOM
              go_wp2_with fail
              refine wp_region_plan (N := 246) [.rd [0, 1, 2, 4, 5, 6], .ef 3, .ef 7, .rd [8]] (fun w' => w'.cell? ⟨bx, 1, none⟩ = some (.string ss)) (by kernel_rfl) (by kernel_rfl) (by kernel_rfl) (by kernel_rfl) (Nat.le_of_ble_eq_true rfl) x1 ?_
              refine plan_rd (A := ?A1) ?h1 ?h2
              case h1 =>
                intro w' hS K hK
                simp only [opsAt, List.filterMap_cons, List.filterMap_nil, List.getElem?_toArray, List.getElem?_cons_succ, List.getElem?_cons_zero]
                repeat still_step
                refine wpStill_nil ?_
                exact hK
              clear x0 x1 x2 x3 D4
              refine plan_ef rfl ?_
              go_wp2_with fail
              refine (COM.out).mono ?_
              rintro e w6 ⟨rfl, d6, j6, c6⟩
              have X6 := Lib.hid (c6.obj (fun e => by rcases e with e | e; exact hxB e; exact hbb e) X5.out)
              have D6 := Lib.hid d6
              have J6 := Lib.hid j6
              have R6 := Lib.hid (R5.out.chg c6 (fun k hk e => by rcases e with e | rfl; exact LL.out.ap k e hk; exact s2 hk))
              have RJ6 := Lib.hid (RJ5.out.chg c6 (fun e => by rcases e with e | e; exact s3 e; exact hbc e.symm))
              have K6 := Lib.hid (K5.out.trans (c6.mono (fun k _ h => by rcases h with h | rfl; exact LL.out.ob k h; exact s5)))
              clear d6 j6 c6 COM R5 RJ5 K5
              go_wp2_with fail
              refine ⟨cell_of X6.out rfl, ?_⟩
              refine plan_ef rfl ?_
              go_wp2_with fail
              refine (RCOM.out w6 R6.out RJ6.out).mono ?_
              rintro e w7 ⟨rfl, d7, j7, c7⟩
              have X7 := Lib.hid (c7.obj (fun e => by rcases e with e | e; exact hxR e; exact hbc2 e) X6.out)
              have B7 := Lib.hid (show Both w.heap.size w7 B R Z.1 (.pointer (some ⟨b, 0, none⟩)) (.pointer (some ⟨c, 0, none⟩)) from ⟨D6.out.chg c7 (fun k hk e => by rcases e with e | rfl; exact LL.out.ap k hk e; exact s3 hk), d7, .inr ⟨b, c, Z.2.2, rfl, rfl, J6.out.chg c7 (fun e => by rcases e with e | e; exact s2 e; exact hbc e), j7, JO.out, hbc, s1, s2, s3, s4, s5, s6⟩⟩)
              have K7 := Lib.hid (K6.out.trans (c7.mono (fun k _ h => by rcases h with h | rfl; exact LL.out.or k h; exact s6)))
              clear d7 j7 c7 RCOM D6 J6 R6 RJ6 K6 X6
              go_wp2_with fail
              refine ⟨cell_of X7.out rfl, ?_⟩
              refine plan_rd (A := ?A2) ?h3 ?h4
              case h3 =>
                intro w' hS K hK
                clear hS
                simp only [opsAt, List.filterMap_cons, List.filterMap_nil, List.getElem?_toArray, List.getElem?_cons_succ, List.getElem?_cons_zero]
                repeat still_step
                refine wpStill_nil ?_
                exact hK
              refine plan_nil ?_
              go_wp2_with fail
              go_meet
              case rel => exact ⟨rfl, _, B7.out, K7.out, X7.out⟩
          · have LL := Lib.hid L
            clear L
            have f0 : (kd == 0) = false := by rw [beq_eq_false_iff_ne]; exact e0
            by_cases e1 : kd = 1
            · have f1 : (kd == 1) = true := by rw [beq_iff_eq]; exact e1
              clear e0 e1
              as_aux_lemma =>
              go_wp2_with fail
              refine (crash_any w4 B d keep _ (· < w.heap.size) D4.out.db (fun k hk e => LL.out.ob k e hk) (HBO.out.chg K4.out (fun k hk e => e hk))).mono ?_
              rintro e w6 ⟨rfl, d6, c6⟩
              have X6 := Lib.hid (c6.obj hxB X4.out)
              have D6 := Lib.hid d6
              have C6 := Lib.hid c6
              have K6 := Lib.hid (K4.out.trans (c6.mono (fun k _ h => LL.out.ob k h)))
              have R6 := Lib.hid (D4.out.dr1 LL.out c6)
              have y0 : w6.cell? ⟨bx, 0, none⟩ = some (.int .i64 kd) := cell_of X6.out rfl
              have y1 : w6.cell? ⟨bx, 1, none⟩ = some (.string ss) := cell_of X6.out rfl
              have y2 : w6.cell? ⟨bx, 2, none⟩ = some (.int .i64 nn) := cell_of X6.out rfl
              have y3 : w6.cell? ⟨bx, 3, none⟩ = some (.slice ka keep.length kc) := cell_of X6.out rfl
              clear d6 c6 x0 x1 x2 x3
              go_wp2_with fail
              refine (rcrash_any w6 R d keep _ (· < w.heap.size) R6.out (fun k hk e => LL.out.or k e hk) (HBO.out.chg K6.out (fun k hk e => e hk))).mono ?_
              rintro e w7 ⟨rfl, d7, c7⟩
              have c7' : Chg R.S w6 w7 := c7
              have X7 := Lib.hid (c7'.obj hxR X6.out)
              have B7 := Lib.hid (D4.out.dev LL.out D6.out C6.out d7 c7')
              have K7 := Lib.hid (K6.out.trans (c7'.mono (fun k _ h => LL.out.or k h)))
              clear d7 c7 c7' y0 y1 y2 y3 D6 C6 R6 K6
              go_wp2_with fail
              go_meet
              case rel => exact ⟨rfl, _, B7.out, K7.out, X7.out⟩
            have f1 : (kd == 1) = false := by rw [beq_eq_false_iff_ne]; exact e1
            by_cases e2 : kd = 2
            · have f2 : (kd == 2) = true := by rw [beq_iff_eq]; exact e2
              clear e0 e1 e2
              as_aux_lemma =>
              go_wp2_with fail
              refine (setFuse_any w4 B d nn D4.out.db hnr).mono ?_
              rintro e w6 ⟨rfl, d6, c6⟩
              have X6 := Lib.hid (c6.obj hxB X4.out)
              have D6 := Lib.hid d6
              have C6 := Lib.hid c6
              have K6 := Lib.hid (K4.out.trans (c6.mono (fun k _ h => LL.out.ob k h)))
              have R6 := Lib.hid (D4.out.dr1 LL.out c6)
              have y0 : w6.cell? ⟨bx, 0, none⟩ = some (.int .i64 kd) := cell_of X6.out rfl
              have y1 : w6.cell? ⟨bx, 1, none⟩ = some (.string ss) := cell_of X6.out rfl
              have y2 : w6.cell? ⟨bx, 2, none⟩ = some (.int .i64 nn) := cell_of X6.out rfl
              have y3 : w6.cell? ⟨bx, 3, none⟩ = some (.slice ka keep.length kc) := cell_of X6.out rfl
              clear d6 c6 x0 x1 x2 x3
              go_wp2_with fail
              refine (rsetFuse_any w6 R d nn R6.out hnr).mono ?_
              rintro e w7 ⟨rfl, d7, c7⟩
              have c7' : Chg R.S w6 w7 := c7.mono (fun k _ e => .inl e)
              have X7 := Lib.hid (c7'.obj hxR X6.out)
              have B7 := Lib.hid (D4.out.dev LL.out D6.out C6.out d7 c7')
              have K7 := Lib.hid (K6.out.trans (c7'.mono (fun k _ h => LL.out.or k h)))
              clear d7 c7 c7' y0 y1 y2 y3 D6 C6 R6 K6
              go_wp2_with fail
              go_meet
              case rel => exact ⟨rfl, _, B7.out, K7.out, X7.out⟩
            have f2 : (kd == 2) = false := by rw [beq_eq_false_iff_ne]; exact e2
            by_cases e3 : kd = 3
            · have f3 : (kd == 3) = true := by rw [beq_iff_eq]; exact e3
              clear e0 e1 e2 e3
              as_aux_lemma =>
              have k5 := chg_drew (fun _ => False) w4
              have D5 := Lib.hid (D4.out.chg k5)
              have X5 := Lib.hid (k5.obj (fun e => e) X4.out)
              have K5 := Lib.hid K4.out.drew
              have WR := Lib.hid (write_any w4.drew B d nn ss D5.out.db (by unfold maxLen; omega))
              have RWR := Lib.hid (fun w6 (h : RDevAt w6 R d) => rwrite_any w6 R d nn ss h (by unfold maxLen; omega))
              unfold DB.ptr at WR
              unfold RB.ptr at RWR
              generalize d.write nn ss.data.toList = Z at *
              clear k5
              go_wp2_with fail
              refine wp_region_plan (N := 246) [.rd [0, 1, 2, 3, 4, 6, 7, 8, 9, 10], .ef 5, .ef 11, .rd [12]] (fun w' => w'.cell? ⟨bx, 1, none⟩ = some (.string ss) ∧ w'.cell? ⟨bx, 2, none⟩ = some (.int .i64 nn)) (by kernel_rfl) (by kernel_rfl) (by kernel_rfl) (by kernel_rfl) (Nat.le_of_ble_eq_true rfl) ⟨x1, x2⟩ ?_
              refine plan_rd (A := ?A5) ?h5 ?h6
              case h5 =>
                intro w' hS K hK
                obtain ⟨s1, s2⟩ := hS
                simp only [opsAt, List.filterMap_cons, List.filterMap_nil, List.getElem?_toArray, List.getElem?_cons_succ, List.getElem?_cons_zero]
                repeat still_step
                refine wpStill_nil ?_
                exact hK
              clear x0 x1 x2 x3
              refine plan_ef rfl ?_
              go_wp2_with fail
              refine (WR.out).mono ?_
              rintro e w6 ⟨rfl, d6, c6⟩
              have X6 := Lib.hid (c6.obj hxB X5.out)
              have D6 := Lib.hid d6
              have C6 := Lib.hid c6
              have K6 := Lib.hid (K5.out.trans (c6.mono (fun k _ h => LL.out.ob k h)))
              have R6 := Lib.hid (D5.out.dr1 LL.out c6)
              clear d6 c6 WR
              go_wp2_with fail
              refine ⟨⟨cell_of X6.out rfl, cell_of X6.out rfl⟩, ?_⟩
              refine plan_ef rfl ?_
              go_wp2_with fail
              refine (RWR.out w6 R6.out).mono ?_
              rintro e w7 ⟨rfl, d7, c7⟩
              have X7 := Lib.hid (c7.obj hxR X6.out)
              have B7 := Lib.hid (D5.out.dev LL.out D6.out C6.out d7 c7)
              have K7 := Lib.hid (K6.out.trans (c7.mono (fun k _ h => LL.out.or k h)))
              clear d7 c7 RWR D6 C6 R6 K6 X6
              go_wp2_with fail
              refine ⟨⟨cell_of X7.out rfl, cell_of X7.out rfl⟩, ?_⟩
              refine plan_rd (A := ?A6) ?h7 ?h8
              case h7 =>
                intro w' hS K hK
                clear hS
                simp only [opsAt, List.filterMap_cons, List.filterMap_nil, List.getElem?_toArray, List.getElem?_cons_succ, List.getElem?_cons_zero]
                repeat still_step
                refine wpStill_nil ?_
                exact hK
              refine plan_nil ?_
              go_wp2_with fail
              go_meet
              case rel => exact ⟨rfl, _, B7.out, K7.out, X7.out⟩
            have f3 : (kd == 3) = false := by rw [beq_eq_false_iff_ne]; exact e3
            by_cases e4 : kd = 4
            · have f4 : (kd == 4) = true := by rw [beq_iff_eq]; exact e4
              clear e0 e1 e2 e3 e4
              as_aux_lemma =>
              have BAR := Lib.hid (barrier_any w4 B d D4.out.db)
              have RBAR := Lib.hid (fun w6 (h : RDevAt w6 R d) => rbarrier_any w6 R d h)
              unfold DB.ptr at BAR
              unfold RB.ptr at RBAR
              generalize d.barrier = Z at *
              go_wp2_with fail
              refine (BAR.out).mono ?_
              rintro e w6 ⟨rfl, d6, c6⟩
              have X6 := Lib.hid (c6.obj hxB X4.out)
              have D6 := Lib.hid d6
              have C6 := Lib.hid c6
              have K6 := Lib.hid (K4.out.trans (c6.mono (fun k _ h => LL.out.ob k h)))
              have R6 := Lib.hid (D4.out.dr1 LL.out c6)
              have y0 : w6.cell? ⟨bx, 0, none⟩ = some (.int .i64 kd) := cell_of X6.out rfl
              have y1 : w6.cell? ⟨bx, 1, none⟩ = some (.string ss) := cell_of X6.out rfl
              have y2 : w6.cell? ⟨bx, 2, none⟩ = some (.int .i64 nn) := cell_of X6.out rfl
              have y3 : w6.cell? ⟨bx, 3, none⟩ = some (.slice ka keep.length kc) := cell_of X6.out rfl
              clear d6 c6 x0 x1 x2 x3
              go_wp2_with fail
              refine (RBAR.out w6 R6.out).mono ?_
              rintro e w7 ⟨rfl, d7, c7⟩
              have c7' : Chg R.S w6 w7 := c7
              have X7 := Lib.hid (c7'.obj hxR X6.out)
              have B7 := Lib.hid (D4.out.dev LL.out D6.out C6.out d7 c7')
              have K7 := Lib.hid (K6.out.trans (c7'.mono (fun k _ h => LL.out.or k h)))
              clear d7 c7 c7' y0 y1 y2 y3 D6 C6 R6 K6
              go_wp2_with fail
              go_meet
              case rel => exact ⟨rfl, _, B7.out, K7.out, X7.out⟩
            have f4 : (kd == 4) = false := by rw [beq_eq_false_iff_ne]; exact e4
            clear e0 e1 e2 e3 e4
            go_wp2_with fail
            go_meet
            case rel => exact ⟨rfl, d, D4.out, K4.out, X4.out⟩
        case rest =>
          as_aux_lemma =>
          obtain ⟨rfl, d, bo, kc4, xc⟩ := hcut
          clear D4 K4 X4 x0 x1 x2 x3
          have D4 := Lib.hid bo
          have K4 := Lib.hid kc4
          have x0 : wc.cell? ⟨bx, 0, none⟩ = some (.int .i64 kd) := cell_of xc rfl
          clear bo kc4 xc HBO hxB hxR hxo
          go_upto_region 32 with fail
          go_cut [142] (fun c wx => c = .bool (kd == 1 || kd == 5) ∧ wx = wc)
          case first =>
            as_aux_lemma =>
            by_cases e1 : kd = 1
            · have f1 : (kd == 1) = true := by rw [beq_iff_eq]; exact e1
              clear e1
              go_wp2_with fail
              go_meet
              case rel => exact ⟨by rw [f1]; rfl, rfl⟩
            · have f1 : (kd == 1) = false := by rw [beq_eq_false_iff_ne]; exact e1
              clear e1
              go_wp2_with fail
              go_meet
              case rel => exact ⟨by rw [f1]; rfl, rfl⟩
          case rest =>
            as_aux_lemma =>
            obtain ⟨rfl, hwx⟩ := hcut
            subst hwx
            generalize (kd == 1 || kd == 5) = ra at *
            go_upto_if 142 with fail
            go_cut [7, 8, 9, 10] (fun jv ev kv fv wx => ∃ ee, ev = .int .i64 ee ∧ fv = .int .i64 ee ∧ Both w.heap.size wx B R d jv kv ∧ Chg (fun k => ¬ k < w.heap.size) w wx)
            case first =>
              as_aux_lemma =>
              cases ra with
              | false =>
                as_aux_lemma =>
                go_wp2_with fail
                go_meet
                case rel => exact ⟨ee, rfl, rfl, D4.out, K4.out⟩
              | true =>
                as_aux_lemma =>
                have hcz := K4.out.size
                go_wp2_with fail
                refine (open_any _ B d D4.out.db).mono ?_
                rintro e w6 (⟨hbad, rfl, c6⟩ | ⟨hnb, b, rfl, j6, c6, hb1, hb2⟩)
                · have D6 := Lib.hid (D4.out.chg c6)
                  have K6 := Lib.hid (K4.out.trans (c6.mono (fun _ _ e => e.elim)))
                  clear c6 x0
                  go_wp2_with fail
                  refine (ropen_any _ R d D6.out.dr).mono ?_
                  rintro e w7 (⟨_, rfl, c7⟩ | ⟨hnb, _⟩)
                  · have D7 := Lib.hid (D6.out.chg c7)
                    have K7 := Lib.hid (K6.out.trans (c7.mono (fun _ _ e => e.elim)))
                    clear c7
                    go_wp2_with fail
                    go_meet
                    case rel => exact ⟨2, rfl, rfl, ⟨D7.out.db, D7.out.dr, .inl ⟨rfl, rfl⟩⟩, K7.out⟩
                  · exact absurd hbad hnb
                · have D6 := Lib.hid (D4.out.chg c6)
                  have K6 := Lib.hid (K4.out.trans (c6.mono (fun _ _ e => e.elim)))
                  have J6 := Lib.hid j6
                  unfold jptr
                  clear c6 x0 j6
                  go_wp2_with fail
                  refine (ropen_any _ R d D6.out.dr).mono ?_
                  rintro e w7 (⟨hbad, _⟩ | ⟨_, c, rfl, j7, c7, hc1, hc2⟩)
                  · exact absurd hbad hnb
                  · have D7 := Lib.hid (D6.out.chg c7)
                    have K7 := Lib.hid (K6.out.trans (c7.mono (fun _ _ e => e.elim)))
                    have B7 := Lib.hid (show Both w.heap.size w7 B R d (.pointer (some ⟨b, 0, none⟩)) (.pointer (some ⟨c, 0, none⟩)) from ⟨D7.out.db, D7.out.dr, .inr ⟨b, c, _, rfl, rfl, J6.out.chg c7 (fun e => e), j7, jrOk_open hnb, by omega, fun e => by have := D4.out.db.lt e; omega, fun e => by have := D4.out.dr.lt e; omega, fun e => by have := D6.out.db.lt e; omega, fun e => by have := D6.out.dr.lt e; omega, by omega, by have := K6.out.size; omega⟩⟩)
                    unfold jptr
                    clear c7 j7 hb1 hb2 hc1 hc2 hnb
                    go_wp2_with fail
                    go_meet
                    case rel => exact ⟨0, rfl, rfl, B7.out, K7.out⟩
            case rest =>
              as_aux_lemma =>
              obtain ⟨e5, rfl, rfl, bo, kc5⟩ := hcut
              clear D4 K4 x0
              have D5 := Lib.hid bo
              have K5 := Lib.hid kc5
              clear bo kc5
              go_wp2_with fail
              refine (pending_any _ B d D5.out.db).mono ?_
              rintro e w6 ⟨v1, rfl, o6, c6⟩
              obtain ⟨p1, pc1, rfl, hpl, hcl1⟩ := own_ints o6
              have P1 := Lib.hid hcl1
              have D6 := Lib.hid (D5.out.chg c6)
              have K6 := Lib.hid (K5.out.trans (c6.mono (fun _ _ e => e.elim)))
              clear o6 c6 hcl1 D5 K5
              go_wp2_with fail
              refine (rpending_any _ R d D6.out.dr).mono ?_
              rintro e w7 ⟨v2, rfl, o7, c7⟩
              obtain ⟨p2, pc2, rfl, _, hcl2⟩ := own_ints o7
              have P2 := Lib.hid hcl2
              have P1' := Lib.hid (show ∀ j (x : Nat), d.pending[j]? = some x → ∃ g, p1 = some ⟨g, 0, none⟩ ∧ w7.cell? ⟨g, j, none⟩ = some (.int .i64 (x : Int)) from fun j x hj => by obtain ⟨g, h1, _, h3⟩ := P1.out j x hj; exact ⟨g, h1, cell_chg c7 (fun e => e) h3⟩)
              have D7 := Lib.hid (D6.out.chg c7)
              have K7 := Lib.hid (K6.out.trans (c7.mono (fun _ _ e => e.elim)))
              clear o7 c7 hcl2 D6 K6 P1
              have D8 := Lib.hid (D7.out.chg (chg_drew (fun _ => False) w7))
              have DEAD := Lib.hid (dead_any w7.drew B d D8.out.db)
              have RD1 := Lib.hid (read_out w7.drew B d (-1) D8.out.db (.inl (by omega)))
              have RD2 := Lib.hid (read_out w7.drew B d (N : Int) D8.out.db (.inr (by rw [HBn.out]; omega)))
              have cd : w7.drew.cell? ⟨R.b, 4, none⟩ = some (.bool d.dead) := D8.out.dr.c4
              have hdd : (d.dead != d.dead) = false := by simp
              have HPL := Lib.hid hpl
              unfold maxLen at hpl
              unfold DB.ptr at DEAD RD1 RD2
              generalize hnd : d.dead = dd at *
              have HND := Lib.hid hnd
              clear hnd
              obtain ⟨L, hL⟩ : ∃ L, d.pending.length = L := ⟨_, rfl⟩
              rw [hL] at hpl ⊢
              have HL := Lib.hid hL
              clear hL
              go_wp2_with fail
              refine wp_still_drew (by kernel_rfl) (by kernel_rfl) ?_
              repeat still_step
              still_call (DEAD.out.mono fun _ _ h => ⟨h.1, h.2.symm⟩)
              repeat still_step
              still_call (RD1.out.mono fun _ _ h => ⟨h.1, h.2.symm⟩)
              repeat still_step
              still_call (RD2.out.mono fun _ _ h => ⟨h.1, h.2.symm⟩)
              repeat still_step
              refine wpStill_nil ?_
              have K8 := Lib.hid K7.out.drew
              have Q1 := Lib.hid (show ∀ j (x : Nat), d.pending[j]? = some x → ∃ g, p1 = some ⟨g, 0, none⟩ ∧ w7.drew.cell? ⟨g, j, none⟩ = some (.int .i64 (x : Int)) from P1'.out)
              have Q2 := Lib.hid (show ∀ j (x : Nat), d.pending[j]? = some x → ∃ g, p2 = some ⟨g, 0, none⟩ ∧ w7.drew.cell? ⟨g, j, none⟩ = some (.int .i64 (x : Int)) from fun j x hj => by obtain ⟨g, h1, _, h3⟩ := P2.out j x hj; exact ⟨g, h1, h3⟩)
              clear DEAD RD1 RD2 cd hdd P1' P2 D7 K7 HND
              generalize w7.drew = w8 at *
              go_wp2_with fail
              go_loopw [194] (fun mv wq => ∃ m : Nat, mv = .int .i64 m ∧ m ≤ L ∧ Chg (fun _ => False) w8 wq) (fun mv _ => L - (intOf mv).toNat)
              case atStart => exact ⟨0, rfl, by omega, Chg.refl _ _⟩
              case round =>
                as_aux_lemma =>
                obtain ⟨m, rfl, hml, hcq⟩ := hrel
                by_cases hm : m < L
                · obtain ⟨x, hx⟩ : ∃ x, d.pending[m]? = some x := ⟨_, List.getElem?_eq_getElem (by rw [HL.out]; exact hm)⟩
                  obtain ⟨g1, rfl, y1⟩ := Q1.out m x hx
                  obtain ⟨g2, rfl, y2⟩ := Q2.out m x hx
                  have z1 := cell_chg hcq (fun e => e) y1
                  have z2 := cell_chg hcq (fun e => e) y2
                  have HCQ := Lib.hid hcq
                  clear y1 y2 hx hcq
                  go_wp2_with fail
                  refine wp_still_drew (by kernel_rfl) (by kernel_rfl) ?_
                  repeat still_step
                  refine wpStill_nil ?_
                  go_wp2
                  go_roundw
                  case rel => exact ⟨m + 1, by go_num, by omega, HCQ.out.drew⟩
                  case measure => simp [intOf]; omega
                · have hmd : decide (m < L) = false := by rw [decide_eq_false_iff_not]; omega
                  have D9 := Lib.hid (D8.out.chg hcq)
                  have K9 := Lib.hid (K8.out.trans (hcq.mono (fun _ _ e => e.elim)))
                  clear hcq Q1 Q2 D8 K8
                  go_wp2_with fail
                  go_loop [16] (fun mv => ∃ q : Nat, mv = .int .i64 q ∧ q ≤ N) (fun mv => N - (intOf mv).toNat)
                  case atStart => exact ⟨0, rfl, by omega⟩
                  case round =>
                    as_aux_lemma =>
                    obtain ⟨q, rfl, hqN⟩ := hrel
                    by_cases hq : q < N
                    · have RQ := Lib.hid (read_any _ B d (q : Int) D9.out.db)
                      have SQ := Lib.hid (rread_any _ R d (q : Int) D9.out.dr)
                      unfold DB.ptr at RQ
                      unfold RB.ptr str at SQ
                      generalize d.read q = rq at *
                      go_wp2_with fail
                      refine (RQ.out).mono ?_
                      rintro e w' ⟨rfl, rfl⟩
                      go_wp2_with fail
                      refine (SQ.out).mono ?_
                      rintro e w' ⟨rfl, rfl⟩
                      go_wp2
                      go_round
                      case rel => exact ⟨q + 1, by go_num, by omega⟩
                      case measure => simp [intOf]; omega
                    · have hqd : decide (q < N) = false := by rw [decide_eq_false_iff_not]; omega
                      have hjj := D9.out.jj
                      rcases hjj with ⟨rfl, rfl⟩ | ⟨b, c, j, rfl, rfl, ja, ra', jo, hbc, s1, s2, s3, s4, s5, s6⟩
                      · go_wp2_with fail
                        go_quiet (fail)
                        rename_i nq
                        go_wp2
                        go_roundw
                        case rel => exact ⟨k + 1, d, e5, by go_num, by omega, rfl, rfl, ⟨D9.out.db.chg ((Chg.refl (fun _ => False) _).drewN nq) (fun _ _ e => e), D9.out.dr.chg ((Chg.refl (fun _ => False) _).drewN nq) (fun _ _ e => e), .inl ⟨rfl, rfl⟩⟩, K9.out.drewN nq⟩
                        case measure => simp [intOf]; omega
                      · have wd := chg_drew (fun _ => False) wr
                        have RC := Lib.hid (record_at wr.drew B b j (ja.chg wd (fun e => e)))
                        have NC := Lib.hid (number_at wr.drew B b j (ja.chg wd (fun e => e)))
                        have RM := Lib.hid (room_at wr.drew b B (ja.chg wd (fun e => e)).c0 (D9.out.db.chg wd (fun _ _ e => e)).c0 (by rw [HBn.out]; exact h3) (by rw [HBn.out]; exact h65))
                        have RR := Lib.hid (rroom_any wr.drew (N : Int) (by omega) (by omega))
                        have r1 : wr.drew.cell? ⟨c, 1, none⟩ = some (.int .i64 j.number) := ra'.c1
                        have r3 : wr.drew.cell? ⟨c, 3, none⟩ = some (.string j.text) := ra'.c3
                        have hrm : ((((B.n - 1) / 2 * 32 : Nat) : Int) != ((N : Int) - 1) / 2 * 32) = false := by rw [HBn.out, bne_eq_false_iff_eq]; omega
                        have D10 := Lib.hid (D9.out.chg wd)
                        have K10 := Lib.hid K9.out.drew
                        clear wd ja ra' jo
                        unfold jptr at RC NC RM
                        go_wp2_with fail
                        refine wp_still_drew (by kernel_rfl) (by kernel_rfl) ?_
                        repeat still_step
                        still_call (RC.out.mono fun _ _ h => ⟨h.1, h.2.symm⟩)
                        repeat still_step
                        still_call (NC.out.mono fun _ _ h => ⟨h.1, h.2.symm⟩)
                        repeat still_step
                        still_call (RM.out.mono fun _ _ h => ⟨h.1, h.2.symm⟩)
                        repeat still_step
                        still_call (RR.out.mono fun _ _ h => ⟨h.1, h.2.symm⟩)
                        repeat still_step
                        refine wpStill_nil ?_
                        go_wp2
                        go_roundw
                        case rel => exact ⟨k + 1, d, e5, by go_num, by omega, rfl, rfl, D10.out, K10.out⟩
                        case measure => simp [intOf]; omega
    · clear HL3
      go_wp2
      all_goals go_ret
      all_goals exact ⟨rfl, HC.out.mono (fun k hk e => e hk)⟩
end Go.Proofs.Ytnmgnhhipgiggaa
