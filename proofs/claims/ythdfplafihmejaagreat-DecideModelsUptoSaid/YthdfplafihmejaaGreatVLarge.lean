/-
  Layer 17: large.
-/
import Derived.Test.YthdfplafihmejaaGreatPushT
import Derived.Test.YthdfplafihmejaaGreatAEnt
import Derived.Deep.DeepCutAuto
import Derived.Deep.CutBlock
namespace Go.Proofs.YthdfplafihmejaaGreat
open Go.RowKit Go.Maps

def wordsE (L : List BEnt) : List ByteArray := L.flatMap fun x => x.2
theorem wordsE_succ {L : List BEnt} {k : Nat} {x : BEnt} (h : L[k]? = some x) : wordsE (L.take (k + 1)) = wordsE (L.take k) ++ x.2 := by
 unfold wordsE
 rw [List.take_add_one, h, List.flatMap_append]
 simp
/-- What is asked is small, in the whole. -/
structure Up17 (R : List BRul) (C : List BCert) (L : List BEnt) (c : List ByteArray) : Prop where
 rules : R.length ≤ 1048576
 certs : C.length ≤ 1048576
 ents : L.length ≤ 1048576
 set : c.length ≤ 1048576
 fr : ∀ k ∈ C, k.fr.length ≤ 1048576
 who : ∀ x ∈ L, x.2.length ≤ 1048576
structure Fit17 (R : List BRul) (C : List BCert) (L : List BEnt) (c : List ByteArray) : Prop where
 certs : C.length ≤ 8
 rules : R.length ≤ 12 ∨ 400 < R.length
 ents : L.length ≤ 20
 word : ∀ r ∈ R.take 401, r.1.size ≤ 100 ∧ r.2.size ≤ 100
 cert : ∀ k ∈ C, k.sp.size ≤ 100 ∧ k.fr.length ≤ 1200 ∧ ∀ x ∈ k.fr, x.size ≤ 100
 who : ∀ x ∈ L, x.2.length ≤ 1200 ∧ ∀ z ∈ x.2, z.size ≤ 100
 set : c.length ≤ 1200 ∧ ∀ x ∈ c, x.size ≤ 100
theorem fit17_of {R : List BRul} {C : List BCert} {L : List BEnt} {c : List ByteArray} (h1 : C.length ≤ 8 ∧ (R.length ≤ 12 ∨ 400 < R.length) ∧ L.length ≤ 20) (hl : ((c ++ wordsL (R.take 401)) ++ wordsC C ++ wordsE L).length ≤ 1200) (h : ∀ x ∈ (c ++ wordsL (R.take 401)) ++ wordsC C ++ wordsE L, x.size ≤ 100) : Fit17 R C L c := by
 have hc : ∀ k ∈ C, ∀ x ∈ (k.sp :: k.fr), x.size ≤ 100 := fun k hk x hx => h x (List.mem_append_left _ (List.mem_append_right _ (List.mem_flatMap.2 ⟨k, hk, hx⟩)))
 have hw : ∀ x ∈ L, ∀ z ∈ x.2, z.size ≤ 100 := fun x hx z hz => h z (List.mem_append_right _ (List.mem_flatMap.2 ⟨x, hx, hz⟩))
 rw [List.length_append, List.length_append, List.length_append] at hl
 have lc : ∀ k ∈ C, k.fr.length ≤ (wordsC C).length := fun k hk => by
  unfold wordsC
  obtain ⟨s, t, rfl⟩ := List.append_of_mem hk
  rw [List.flatMap_append, List.flatMap_cons, List.length_append, List.length_append, List.length_cons]
  omega
 have lw : ∀ x ∈ L, x.2.length ≤ (wordsE L).length := fun x hx => by
  unfold wordsE
  obtain ⟨s, t, rfl⟩ := List.append_of_mem hx
  rw [List.flatMap_append, List.flatMap_cons, List.length_append, List.length_append]
  omega
 refine ⟨h1.1, h1.2.1, h1.2.2, fun r hr => ?_, fun k hk => ⟨hc k hk _ (by simp), by have := lc k hk; omega, fun x hx => hc k hk x (List.mem_cons_of_mem _ hx)⟩, fun x hx => ⟨by have := lw x hx; omega, hw x hx⟩, by omega, fun x hx => h x (List.mem_append_left _ (List.mem_append_left _ (List.mem_append_left _ hx)))⟩
 have q : ∀ x ∈ [r.1, r.2], x.size ≤ 100 := fun x hx => h x (List.mem_append_left _ (List.mem_append_left _ (List.mem_append_right _ (List.mem_flatMap.2 ⟨r, hr, hx⟩))))
 exact ⟨q _ (by simp), q _ (by simp)⟩
def AskBox (w : World) (b : Nat) (rv v lv : Value) (op : Int) (cv : Value) (bo : Int) : Prop := w.heap[b]? = some (.cells #[rv, v, lv, .int .i64 op, cv, .int .i64 bo] 28 (0, 0))
def Large17Res (w : World) (R : List BRul) (C : List BCert) (L : List BEnt) (c : List ByteArray) (e : Ending) (w' : World) : Prop := ∃ b : Bool, e = .returned (.bool b) ∧ Chg (fun _ => False) w w' ∧ (b = false → Fit17 R C L c)
set_option maxHeartbeats 8000000 in
set_option maxRecDepth 100000 in
theorem large17_any (w : World) (ra : Option Addr) (R : List BRul) (rc : Nat) (v lv cv : Value) (P : List (BCert × Value)) (L : List BEnt) (op bo : Int) (c : List ByteArray) (hR : RulesAt w (.slice ra R.length rc) (· < w.heap.size) R) (hv : CertsAt w v (· < w.heap.size) P) (hl : EntsAt w lv (· < w.heap.size) L) (hc : SetAt w cv (· < w.heap.size) c) (hu : Up17 R (certsOf P) L c) :
  Calls Tryz.prog 10 #[.agg #[.slice ra R.length rc, v, lv, .int .i64 op, cv, .int .i64 bo]] w (Large17Res w R (certsOf P) L c) := by
 have k1 := chg_alloc (fun _ => False) w (.cells #[.slice ra R.length rc, v, lv, .int .i64 op, cv, .int .i64 bo] 28)
 have O1 := Lib.hid (obj_alloc_new w (.cells #[.slice ra R.length rc, v, lv, .int .i64 op, cv, .int .i64 bo] 28))
 have K1 := Lib.hid k1
 have HR := Lib.hid hR
 have HV := Lib.hid hv
 have HL := Lib.hid hl
 have HC := Lib.hid hc
 have HU := Lib.hid hu
 obtain ⟨_, _, e0, hr0, _⟩ := hR
 cases e0
 obtain ⟨la, lcap, rfl, hl0, _⟩ := hv
 obtain ⟨xla, xlc, rfl, _, _⟩ := hl.shape
 obtain ⟨xca, xcc, rfl, _, _⟩ := id hc.at_
 have NIL := Lib.hid (show xca = none → c.length = 0 ∧ xcc = 0 from fun e => hc.nil _ _ (by rw [e]))
 have ur := hu.rules
 have up := hu.certs
 have ul := hu.ents
 have uc := hu.set
 rw [certsOf_length] at up
 have FIN := Lib.hid (@fit17_of R (certsOf P) L c)
 clear hl hc hu k1 hr0 hl0
 go_enter Tryz.func10, Tryz.ntmps10
 go_upto_region 1 with fail
 have c0 := cell_of (o := 0) O1.out rfl
 have c1 := cell_of (o := 1) O1.out rfl
 have c2 := cell_of (o := 2) O1.out rfl
 have c5 := cell_of (o := 5) O1.out rfl
 generalize w.alloc (.cells #[.slice ra R.length rc, .slice la P.length lcap, .slice xla L.length xlc, .int .i64 op, .slice xca c.length xcc, .int .i64 bo] 28) = w1 at *
 obtain ⟨b0, hb0⟩ : ∃ b0, b0 = w.heap.size := ⟨_, rfl⟩
 rw [← hb0] at O1 c0 c1 c2 c5
 rw [← hb0]
 clear hb0
 have BX := Lib.hid (fun (W : World) (k : Chg (fun _ => False) w1 W) => show W.heap[b0]? = some (.cells #[.slice ra R.length rc, .slice la P.length lcap, .slice xla L.length xlc, .int .i64 op, .slice xca c.length xcc, .int .i64 bo] 28 (0, 0)) from k.obj (fun e => e) O1.out)
 go_cut [39] (fun cv wc => ∃ x : Bool, cv = .bool x ∧ Hid (w1 = wc) ∧ Hid (x = false → P.length ≤ 8 ∧ (R.length ≤ 12 ∨ 400 < R.length) ∧ L.length ≤ 20))
 case first =>
  by_cases h8 : 8 < P.length
  · have g8 : decide (8 < (P.length : Int)) = true := decide_eq_true (by omega)
    have g8' : decide (8 < P.length) = true := decide_eq_true h8
    go_wp2
    go_meet
    case rel => exact ⟨true, rfl, Lib.hid rfl, Lib.hid (fun e => by cases e)⟩
  have g8 : decide (8 < (P.length : Int)) = false := decide_eq_false (by omega)
  have g8' : decide (8 < P.length) = false := decide_eq_false h8
  have fin1 : (R.length ≤ 12 ∨ 400 < R.length) → ∀ x : Bool, (x = false → L.length ≤ 20) → (x = false → P.length ≤ 8 ∧ (R.length ≤ 12 ∨ 400 < R.length) ∧ L.length ≤ 20) := fun q x h e => ⟨by omega, q, h e⟩
  have FIN1 := Lib.hid fin1
  clear fin1
  have tail : True := trivial
  by_cases h12 : 12 < R.length
  · have g12 : decide (12 < (R.length : Int)) = true := decide_eq_true (by omega)
    have g12' : decide (12 < R.length) = true := decide_eq_true h12
    by_cases h400 : R.length ≤ 400
    · have g4 : decide ((R.length : Int) ≤ 400) = true := decide_eq_true (by omega)
      have g4' : decide (R.length ≤ 400) = true := decide_eq_true h400
      go_wp2
      go_meet
      case rel => exact ⟨true, rfl, Lib.hid rfl, Lib.hid (fun e => by cases e)⟩
    have g4 : decide ((R.length : Int) ≤ 400) = false := decide_eq_false (by omega)
    have g4' : decide (R.length ≤ 400) = false := decide_eq_false h400
    have RR := Lib.hid (show R.length ≤ 12 ∨ 400 < R.length from .inr (by omega))
    by_cases h40 : 40 < bo
    · have g40 : decide (40 < bo) = true := decide_eq_true h40
      by_cases h50 : bo ≤ 5000
      · have g50 : decide (bo ≤ 5000) = true := decide_eq_true h50
        go_wp2
        go_meet
        case rel => exact ⟨true, rfl, Lib.hid rfl, Lib.hid (fun e => by cases e)⟩
      · have g50 : decide (bo ≤ 5000) = false := decide_eq_false h50
        by_cases h20 : 20 < L.length
        · have g20 : decide (20 < (L.length : Int)) = true := decide_eq_true (by omega)
          have g20' : decide (20 < L.length) = true := decide_eq_true h20
          go_wp2
          go_meet
          case rel => exact ⟨true, rfl, Lib.hid rfl, Lib.hid (fun e => by cases e)⟩
        · have g20 : decide (20 < (L.length : Int)) = false := decide_eq_false (by omega)
          have g20' : decide (20 < L.length) = false := decide_eq_false h20
          go_wp2
          go_meet
          case rel => exact ⟨false, rfl, Lib.hid rfl, Lib.hid (FIN1.out RR.out _ fun _ => by omega)⟩
    · have g40 : decide (40 < bo) = false := decide_eq_false h40
      by_cases h20 : 20 < L.length
      · have g20 : decide (20 < (L.length : Int)) = true := decide_eq_true (by omega)
        have g20' : decide (20 < L.length) = true := decide_eq_true h20
        go_wp2
        go_meet
        case rel => exact ⟨true, rfl, Lib.hid rfl, Lib.hid (fun e => by cases e)⟩
      · have g20 : decide (20 < (L.length : Int)) = false := decide_eq_false (by omega)
        have g20' : decide (20 < L.length) = false := decide_eq_false h20
        go_wp2
        go_meet
        case rel => exact ⟨false, rfl, Lib.hid rfl, Lib.hid (FIN1.out RR.out _ fun _ => by omega)⟩
  have g12 : decide (12 < (R.length : Int)) = false := decide_eq_false (by omega)
  have g12' : decide (12 < R.length) = false := decide_eq_false h12
  have RR := Lib.hid (show R.length ≤ 12 ∨ 400 < R.length from .inl (by omega))
  by_cases h40 : 40 < bo
  · have g40 : decide (40 < bo) = true := decide_eq_true h40
    by_cases h50 : bo ≤ 5000
    · have g50 : decide (bo ≤ 5000) = true := decide_eq_true h50
      go_wp2
      go_meet
      case rel => exact ⟨true, rfl, Lib.hid rfl, Lib.hid (fun e => by cases e)⟩
    · have g50 : decide (bo ≤ 5000) = false := decide_eq_false h50
      by_cases h20 : 20 < L.length
      · have g20 : decide (20 < (L.length : Int)) = true := decide_eq_true (by omega)
        have g20' : decide (20 < L.length) = true := decide_eq_true h20
        go_wp2
        go_meet
        case rel => exact ⟨true, rfl, Lib.hid rfl, Lib.hid (fun e => by cases e)⟩
      · have g20 : decide (20 < (L.length : Int)) = false := decide_eq_false (by omega)
        have g20' : decide (20 < L.length) = false := decide_eq_false h20
        go_wp2
        go_meet
        case rel => exact ⟨false, rfl, Lib.hid rfl, Lib.hid (FIN1.out RR.out _ fun _ => by omega)⟩
  · have g40 : decide (40 < bo) = false := decide_eq_false h40
    by_cases h20 : 20 < L.length
    · have g20 : decide (20 < (L.length : Int)) = true := decide_eq_true (by omega)
      have g20' : decide (20 < L.length) = true := decide_eq_true h20
      go_wp2
      go_meet
      case rel => exact ⟨true, rfl, Lib.hid rfl, Lib.hid (fun e => by cases e)⟩
    · have g20 : decide (20 < (L.length : Int)) = false := decide_eq_false (by omega)
      have g20' : decide (20 < L.length) = false := decide_eq_false h20
      go_wp2
      go_meet
      case rel => exact ⟨false, rfl, Lib.hid rfl, Lib.hid (FIN1.out RR.out _ fun _ => by omega)⟩
 case rest =>
  obtain ⟨x, rfl, hw, hx⟩ := hcut
  have hw := hw.out
  subst hw
  cases x with
  | true =>
   go_wp2
   go_ret
   exact ⟨true, rfl, K1.out, fun e => by cases e⟩
  | false =>
  have HX := Lib.hid (hx.out rfl)
  have hP8 := HX.out.1
  have hL20 := HX.out.2.2
  clear hx c0 c1 c2 c5
  have ke := chg_alloc (fun _ => False) w1 (.cells #[] 57)
  have c4 := cell_of (o := 4) (ke.obj (fun e => e) O1.out) rfl
  have KE := Lib.hid ke
  have SRC := Lib.hid (words_src (HC.out.at_.chg (K1.out.trans ke) (fun _ _ e => e)))
  clear ke
  go_wp2_with (at_builtin; refine wpList_pushT rfl (.tmp 40) (.tmp 42) 25 26 rfl 57 57 1 16 Tryz.underlying25 Tryz.underlying26 Tryz.elemWord w1.heap.size _ 0 [] rfl (own_empty _ _ _ _ (Nat.le_refl _)) xca c.length xcc (wcells c) rfl ?a1 ?a2 ?a3 ?a4 ?a5 ?a6 ?a7 ?a8)
  case a1 => rw [wcells_length]
  case a2 => exact SRC.out
  case a3 => exact fun e => by simpa using NIL.out e
  case a4 => exact wcells_one _
  case a5 => omega
  intro v2 w2 o2 g2
  obtain ⟨a2, ac2, rfl⟩ := own_shape o2
  have O2 := Lib.hid (show w2.ownsRow w1.heap.size 57 1 (.slice a2 (0 + c.length) ac2) c.length (wcells c) from by simpa using o2)
  have K2 := Lib.hid (show Chg (fun _ => False) w1 w2 from KE.out.next (Chg.of_grown g2) (fun x hx e => by
   have e2 : w1.heap.size = x := by simpa [Value.ownBlock] using e
   omega))
  clear o2 g2 SRC KE c4
  obtain ⟨N, hN⟩ : ∃ N, N = c ++ wordsL (R.take 401) := ⟨_, rfl⟩
  have HN := Lib.hid hN
  have NLE := Lib.hid (show N.length ≤ 1049400 from by rw [hN, List.length_append, wordsL_length, List.length_take]; omega)
  rw [← hN] at FIN
  clear hN
  go_upto_block 0 with fail
  go_cut [3] (fun sv wc => Hid (wc.ownsRow w1.heap.size 57 1 sv N.length (wcells N) ∧ Chg (fun _ => False) w1 wc))
  case first =>
   go_wp2_with fail
   go_loopw [3, 4] (fun sv iv wr => ∃ k : Nat, k ≤ R.length ∧ k ≤ 401 ∧ iv = .int .i64 k ∧ Hid (wr.ownsRow w1.heap.size 57 1 sv (c ++ wordsL (R.take k)).length (wcells (c ++ wordsL (R.take k))) ∧ Chg (fun _ => False) w1 wr)) (fun _ iv _ => R.length - (intOf iv).toNat)
   case atStart => exact ⟨0, by omega, by omega, rfl, Lib.hid ⟨by simpa [wordsL] using O2.out, K2.out⟩⟩
   case round =>
    obtain ⟨k, hk, hk4, rfl, HI⟩ := hrel
    have hn1 : (c ++ wordsL (R.take k)).length ≤ 1049400 := by rw [List.length_append, wordsL_length, List.length_take]; omega
    have x0 := cell_of (o := 0) (BX.out wr HI.out.2) rfl
    have ends : ¬ (k < R.length ∧ k ≤ 400) → R.take k = R.take 401 := fun h => by
     by_cases q : k < R.length
     · have : k = 401 := by omega
       rw [this]
     · have : k = R.length := by omega
       rw [this, List.take_length, List.take_of_length_le (by omega)]
    have ENDS := Lib.hid ends
    clear ends
    by_cases hboth : k < R.length ∧ k ≤ 400
    · as_aux_lemma =>
      obtain ⟨ya, yc, eb⟩ := own_shape HI.out.1
      subst eb
      obtain ⟨hlt, h400⟩ := hboth
      have g1 : decide ((k : Int) < (R.length : Int)) = true := decide_eq_true (by omega)
      have g1' : decide (k < R.length) = true := decide_eq_true hlt
      have g2 : decide ((k : Int) ≤ 400) = true := decide_eq_true (by omega)
      have g2' : decide (k ≤ 400) = true := decide_eq_true h400
      obtain ⟨⟨rf, rt⟩, hr⟩ : ∃ r, R[k]? = some r := ⟨_, List.getElem?_eq_getElem hlt⟩
      obtain ⟨_, _, e1, _, hcl⟩ := (HR.out.chg (K1.out.trans HI.out.2) (fun _ _ e => e))
      cases e1
      obtain ⟨lb, lo, rfl, hlb, c0, c1, z1, z2⟩ := hcl k _ hr
      simp only at c0 c1 z1 z2
      have NX := Lib.hid (show c ++ wordsL (R.take (k + 1)) = (c ++ wordsL (R.take k)) ++ [rf, rt] by rw [wordsL_succ hr, List.append_assoc])
      have hsz : w1.heap.size ≤ wr.heap.size := HI.out.2.size
      have hlb1 : lb < w1.heap.size := Nat.lt_of_lt_of_le hlb K1.out.size
      have hbb : b0 < w1.heap.size := lt_of_obj O1.out
      clear hcl hr
      obtain ⟨M, hM⟩ : ∃ M, M = c ++ wordsL (R.take k) := ⟨_, rfl⟩
      rw [← hM] at HI hn1 NX
      rw [← hM]
      clear hM
      go_wp2_with fail
      refine wp_region_plan (N := 123) [.rd [0, 1, 2, 3, 4, 5, 6, 7, 8, 9, 10, 11, 12], .ef 13, .ef 14, .rd [15]] (fun w' => w'.cell? ⟨b0, 0, none⟩ = some (.slice (some ⟨lb, lo, none⟩) R.length rc) ∧ w'.cell? ⟨lb, lo + k * 2, none⟩ = some (.string rf) ∧ w'.cell? ⟨lb, lo + k * 2 + 1, none⟩ = some (.string rt)) (by kernel_rfl) (by kernel_rfl) (by kernel_rfl) (by kernel_rfl) (Nat.le_of_ble_eq_true rfl) ⟨x0, c0, c1⟩ ?_
      refine plan_rd (A := ?A1) ?h1 ?h2
      case h1 =>
       rintro w' ⟨z0, z1, z2⟩ K hK
       simp only [opsAt, List.filterMap_cons, List.filterMap_nil, List.getElem?_toArray, List.getElem?_cons_succ, List.getElem?_cons_zero]
       repeat still_step
       refine wpStill_nil ?_
       exact hK
      have D := Lib.hid (chg_drew (fun _ => False) wr)
      have y0 := cell_chg D.out (fun e => e) x0
      have e0 := cell_chg D.out (fun e => e) c0
      have e1 := cell_chg D.out (fun e => e) c1
      have HM := Lib.hid (own_chg HI.out.1 D.out (fun _ _ e => e))
      have KC := Lib.hid (HI.out.2.trans D.out)
      have hsz2 : w1.heap.size ≤ wr.drew.heap.size := KC.out.size
      clear D c0 c1 HI x0
      generalize wr.drew = wd at *
      refine plan_ef rfl ?_
      go_wp2_with fail
      have ka := chg_alloc (fun _ => False) wd (.cells #[.string rf, .string rt] 57)
      have ob := obj_alloc_new wd (.cells #[.string rf, .string rt] 57)
      have x0 := cell_chg ka (fun e => e) y0
      have f0 := cell_chg ka (fun e => e) e0
      have f1 := cell_chg ka (fun e => e) e1
      have HM2 := Lib.hid (own_chg HM.out ka (fun _ _ e => e))
      have KC2 := Lib.hid (KC.out.trans ka)
      have hsz3 : w1.heap.size ≤ (wd.alloc (.cells #[.string rf, .string rt] 57)).heap.size := KC2.out.size
      have SRC := Lib.hid (show ∀ (j : Nat) u, (wcells [rf, rt])[j]? = some u → ∃ g o, some (⟨wd.heap.size, 0, none⟩ : Addr) = some ⟨g, o, none⟩ ∧ (wd.alloc (.cells #[.string rf, .string rt] 57)).cell? ⟨g, o + j, none⟩ = some u from fun j u hj => ⟨wd.heap.size, 0, rfl, by rw [Nat.zero_add]; exact cell_of ob (by simpa [wcells] using hj)⟩)
      clear ka ob HM KC e0 e1 y0
      refine ⟨⟨x0, f0, f1⟩, ?_⟩
      refine plan_ef rfl ?_
      generalize wd.alloc (.cells #[.string rf, .string rt] 57) = we at *
      refine wpList_pushS rfl (.tmp 55) (.tmp 68) 25 rfl 57 1 16 Tryz.underlying25 Tryz.elemWord w1.heap.size (.slice ya M.length yc) M.length (wcells M) rfl HM2.out (some ⟨wd.heap.size, 0, none⟩) 2 2 (wcells [rf, rt]) rfl rfl SRC.out (fun e => by cases e) (wcells_one _) (by omega) (by unfold maxLen; omega) hsz3 ?_
      intro v9 w9 o9 g9
      obtain ⟨a9, c9, rfl⟩ := own_shape o9
      have K9 := Lib.hid (own_next HM2.out KC2.out g9)
      have O9 := Lib.hid (show w9.ownsRow w1.heap.size 57 1 (.slice a9 (M.length + 2) c9) (c ++ wordsL (R.take (k + 1))).length (wcells (c ++ wordsL (R.take (k + 1)))) by rw [NX.out, List.length_append, wcells_append]; exact o9)
      have kg := Chg.of_grown g9
      have nb : ∀ j, j < w1.heap.size → ¬ (Value.slice ya M.length yc).ownBlock = some j := fun j hj e => by have := (HM2.out.lt j e).1; omega
      refine ⟨⟨cell_chg kg (nb _ hbb) x0, cell_chg kg (nb _ hlb1) f0, cell_chg kg (nb _ hlb1) f1⟩, ?_⟩
      clear kg nb f0 f1 x0 SRC g9 o9 HM2 KC2 hsz hsz2 hsz3 NX
      refine plan_rd (A := ?A2) ?h3 ?h4
      case h3 =>
       intro w' hS K hK
       clear hS
       simp only [opsAt, List.filterMap_cons, List.filterMap_nil, List.getElem?_toArray, List.getElem?_cons_succ, List.getElem?_cons_zero]
       repeat still_step
       refine wpStill_nil ?_
       exact hK
      refine plan_nil ?_
      go_wp2
      go_roundw
      case rel => exact ⟨k + 1, by omega, by omega, by go_num, Lib.hid ⟨O9.out, K9.out⟩⟩
      case measure => simp [intOf]; omega
    have R1 := Lib.hid (show wr.ownsRow w1.heap.size 57 1 u3 N.length (wcells N) ∧ Chg (fun _ => False) w1 wr from by
     have := HI.out
     rw [ENDS.out hboth] at this
     rw [HN.out]; exact this)
    clear HI hn1 ENDS
    rcases (show (decide ((k : Int) < (R.length : Int)) = false ∧ decide (k < R.length) = false) ∨ ((decide ((k : Int) < (R.length : Int)) = true ∧ decide (k < R.length) = true) ∧ decide ((k : Int) ≤ 400) = false ∧ decide (k ≤ 400) = false) from by
     by_cases q : k < R.length
     · exact .inr ⟨⟨decide_eq_true (by omega), decide_eq_true q⟩, decide_eq_false (by omega), decide_eq_false (by omega)⟩
     · exact .inl ⟨decide_eq_false (by omega), decide_eq_false q⟩) with ⟨g1, g1'⟩ | ⟨⟨g1, g1'⟩, g2, g2'⟩
    · clear hboth
      go_wp2
      go_meet
      case rel => exact R1
    · clear hboth
      go_wp2
      go_meet
      case rel => exact R1
  case rest =>
   obtain ⟨ya, yc, eb⟩ := own_shape hcut.out.1
   subst eb
   have HN0 := Lib.hid hcut.out.1
   have KN := Lib.hid hcut.out.2
   have hn0 := NLE.out
   have c1 := cell_of (o := 1) (BX.out wc KN.out) rfl
   have UF := Lib.hid (show ∀ (k : Nat) x, (certsOf P)[k]? = some x → x.fr.length ≤ 1048576 from fun k x hx => HU.out.fr x (List.mem_of_getElem? hx))
   have UW := Lib.hid (show ∀ (k : Nat) x, L[k]? = some x → x.2.length ≤ 1048576 from fun k x hx => HU.out.who x (List.mem_of_getElem? hx))
   have hbb : b0 < w1.heap.size := lt_of_obj O1.out
   have HW1 := Lib.hid K1.out.size
   clear hcut O2 K2 NLE HU
   go_wp2
   clear c1
   go_loopw [3, 73] (fun sv iv wr => ∃ k : Nat, k ≤ P.length ∧ iv = .int .i64 k ∧ Hid (wr.ownsRow w1.heap.size 57 1 sv (N ++ wordsC ((certsOf P).take k)).length (wcells (N ++ wordsC ((certsOf P).take k))) ∧ Chg (fun _ => False) w1 wr) ∧ Hid ((N ++ wordsC ((certsOf P).take k)).length ≤ 1049400 + 1048577 * k)) (fun _ iv _ => P.length - (intOf iv).toNat)
   case atStart => exact ⟨0, by omega, rfl, Lib.hid ⟨by simpa [wordsC] using HN0.out, KN.out⟩, Lib.hid (by simpa [wordsC] using hn0)⟩
   case round =>
    obtain ⟨k, hk, rfl, HI, HJ⟩ := hrel
    by_cases hlt : k < P.length
    · as_aux_lemma =>
      obtain ⟨ya, yc, eb⟩ := own_shape HI.out.1
      subst eb
      have hn1 : (N ++ wordsC ((certsOf P).take k)).length ≤ 9438016 := by have := HJ.out; omega
      have hN2 := HJ.out
      have g1 : decide ((k : Int) < (P.length : Int)) = true := decide_eq_true (by omega)
      have g1' : decide (k < P.length) = true := decide_eq_true hlt
      obtain ⟨⟨x, cv⟩, hr⟩ : ∃ r, P[k]? = some r := ⟨_, List.getElem?_eq_getElem hlt⟩
      obtain ⟨_, _, e1, _, hcl⟩ := (HV.out.chg (K1.out.trans HI.out.2) (fun _ _ e => e))
      cases e1
      obtain ⟨lb, lo, sa, sc, rfl, hlb, e5, _, _, c2, c3, _, _, _, hset⟩ := hcl k _ hr
      simp only at c2 c3 hset
      have HCK := Lib.hid (show (certsOf P)[k]? = some x by unfold certsOf; rw [List.getElem?_map, hr]; rfl)
      have NX := Lib.hid (show N ++ wordsC ((certsOf P).take (k + 1)) = (N ++ wordsC ((certsOf P).take k)) ++ (x.sp :: x.fr) by rw [wordsC_succ HCK.out, List.append_assoc])
      have hfl := UF.out k x HCK.out
      have hset := Lib.hid hset
      have hlb1 : lb < w1.heap.size := Nat.lt_of_lt_of_le hlb HW1.out
      have x0 := cell_of (o := 1) (BX.out wr HI.out.2) rfl
      have hsz : w1.heap.size ≤ wr.heap.size := HI.out.2.size
      clear hcl hr e5 HCK hlb
      obtain ⟨M, hM⟩ : ∃ M, M = N ++ wordsC ((certsOf P).take k) := ⟨_, rfl⟩
      rw [← hM] at HI hn1 NX hN2
      rw [← hM]
      clear hM HJ
      obtain ⟨kd, sg, sp, fr, cf, ct, cn⟩ := x
      simp only at c2 c3 hset NX hfl
      go_wp2_with fail
      refine wp_region_plan (N := 123) [.rd [0, 1, 2, 3, 4, 5, 6, 9, 10, 11, 12, 13, 14], .ef 7, .ef 8, .ef 15, .rd [16]] (fun w' => w'.cell? ⟨b0, 1, none⟩ = some (.slice (some ⟨lb, lo, none⟩) P.length lcap) ∧ w'.cell? ⟨lb, lo + k * 7 + 2, none⟩ = some (.string sp) ∧ w'.cell? ⟨lb, lo + k * 7 + 3, none⟩ = some (.slice sa fr.length sc)) (by kernel_rfl) (by kernel_rfl) (by kernel_rfl) (by kernel_rfl) (Nat.le_of_ble_eq_true rfl) ⟨x0, c2, c3⟩ ?_
      refine plan_rd (A := ?B1) ?i1 ?i2
      case i1 =>
       rintro w' ⟨z0, z1, z2⟩ K hK
       simp only [opsAt, List.filterMap_cons, List.filterMap_nil, List.getElem?_toArray, List.getElem?_cons_succ, List.getElem?_cons_zero]
       repeat still_step
       refine wpStill_nil ?_
       exact hK
      have D := Lib.hid (chg_drew (fun _ => False) wr)
      have y0 := cell_chg D.out (fun e => e) x0
      have e0 := cell_chg D.out (fun e => e) c2
      have e1 := cell_chg D.out (fun e => e) c3
      have HM := Lib.hid (own_chg HI.out.1 D.out (fun _ _ e => e))
      have KC := Lib.hid (HI.out.2.trans D.out)
      have HS := Lib.hid (hset.out.set.chg D.out (fun _ _ e => e))
      have hsz2 : w1.heap.size ≤ wr.drew.heap.size := KC.out.size
      clear D c2 c3 HI hset x0
      generalize wr.drew = wd at *
      refine plan_ef rfl ?_
      go_wp2_with fail
      have ka := chg_alloc (fun _ => False) wd (.cells #[.string sp] 57)
      have ob := obj_alloc_new wd (.cells #[.string sp] 57)
      have x0 := cell_chg ka (fun e => e) y0
      have f0 := cell_chg ka (fun e => e) e0
      have f1 := cell_chg ka (fun e => e) e1
      have HM2 := Lib.hid (own_chg HM.out ka (fun _ _ e => e))
      have KC2 := Lib.hid (KC.out.trans ka)
      have HS2 := Lib.hid (HS.out.chg ka (fun _ _ e => e))
      have hsz3 : w1.heap.size ≤ (wd.alloc (.cells #[.string sp] 57)).heap.size := KC2.out.size
      have SRC := Lib.hid (show ∀ (j : Nat) u, (wcells [sp])[j]? = some u → ∃ g o, some (⟨wd.heap.size, 0, none⟩ : Addr) = some ⟨g, o, none⟩ ∧ (wd.alloc (.cells #[.string sp] 57)).cell? ⟨g, o + j, none⟩ = some u from fun j u hj => ⟨wd.heap.size, 0, rfl, by rw [Nat.zero_add]; exact cell_of ob (by simpa [wcells] using hj)⟩)
      clear ka ob HM KC e0 e1 HS y0
      refine ⟨⟨x0, f0, f1⟩, ?_⟩
      refine plan_ef rfl ?_
      generalize wd.alloc (.cells #[.string sp] 57) = we at *
      refine wpList_pushS rfl (.tmp 76) (.tmp 83) 25 rfl 57 1 16 Tryz.underlying25 Tryz.elemWord w1.heap.size (.slice ya M.length yc) M.length (wcells M) rfl HM2.out (some ⟨wd.heap.size, 0, none⟩) 1 1 (wcells [sp]) rfl rfl SRC.out (fun e => by cases e) (wcells_one _) (by omega) (by unfold maxLen; omega) hsz3 ?_
      intro v9 w9 o9 g9
      obtain ⟨a9, c9, rfl⟩ := own_shape o9
      have K9 := Lib.hid (own_next HM2.out KC2.out g9)
      have O9 := Lib.hid (show w9.ownsRow w1.heap.size 57 1 (.slice a9 (M.length + 1) c9) (M.length + 1) (wcells M ++ wcells [sp]) from o9)
      have kg := Chg.of_grown g9
      have nb : ∀ j, j < w1.heap.size → ¬ (Value.slice ya M.length yc).ownBlock = some j := fun j hj e => by have := (HM2.out.lt j e).1; omega
      have f9 := cell_chg kg (nb b0 hbb) x0
      have f2 := cell_chg kg (nb lb hlb1) f0
      have f3 := cell_chg kg (nb lb hlb1) f1
      have HS3 := Lib.hid (HS2.out.chg kg (fun j hj e => nb j (Nat.lt_of_lt_of_le hj HW1.out) e))
      have hsz4 : w1.heap.size ≤ w9.heap.size := K9.out.size
      refine ⟨⟨f9, f2, f3⟩, ?_⟩
      clear kg nb f0 f1 x0 SRC g9 o9 HM2 KC2 hsz hsz2 hsz3 HS2
      refine plan_ef rfl ?_
      have SRC2 := Lib.hid (words_src HS3.out.at_)
      have NIL2 := Lib.hid (show sa = none → fr.length = 0 ∧ sc = 0 from fun e => HS3.out.nil _ _ (by rw [e]))
      refine wpList_pushT rfl (.tmp 84) (.tmp 90) 25 26 rfl 57 57 1 16 Tryz.underlying25 Tryz.underlying26 Tryz.elemWord w1.heap.size (.slice a9 (M.length + 1) c9) (M.length + 1) (wcells M ++ wcells [sp]) rfl O9.out sa fr.length sc (wcells fr) rfl (by rw [wcells_length, Nat.mul_one]) SRC2.out NIL2.out (wcells_one _) (by omega) (by unfold maxLen; omega) hsz4 ?_
      intro v8 w8 o8 g8
      obtain ⟨a8, c8, rfl⟩ := own_shape o8
      have K8 := Lib.hid (own_next O9.out K9.out g8)
      have O8 := Lib.hid (show w8.ownsRow w1.heap.size 57 1 (.slice a8 (M.length + 1 + fr.length) c8) (N ++ wordsC ((certsOf P).take (k + 1))).length (wcells (N ++ wordsC ((certsOf P).take (k + 1)))) by
       rw [NX.out, wcells_append, List.length_append, List.length_cons]
       have e7 : M.length + (fr.length + 1) = M.length + 1 + fr.length := by omega
       rw [e7]
       have e8 : wcells M ++ wcells (sp :: fr) = wcells M ++ wcells [sp] ++ wcells fr := by rw [List.append_assoc]; rfl
       rw [e8]
       exact o8)
      have LN := Lib.hid (show (N ++ wordsC ((certsOf P).take (k + 1))).length ≤ 1049400 + 1048577 * (k + 1) by rw [NX.out, List.length_append, List.length_cons]; omega)
      have kg := Chg.of_grown g8
      have nb : ∀ j, j < w1.heap.size → ¬ (Value.slice a9 (M.length + 1) c9).ownBlock = some j := fun j hj e => by have := (O9.out.lt j e).1; omega
      refine ⟨⟨cell_chg kg (nb b0 hbb) f9, cell_chg kg (nb lb hlb1) f2, cell_chg kg (nb lb hlb1) f3⟩, ?_⟩
      clear kg nb f2 f3 f9 SRC2 NIL2 g8 o8 K9 O9 hsz4 NX HS3
      refine plan_rd (A := ?B2) ?i3 ?i4
      case i3 =>
       intro w' hS K hK
       clear hS
       simp only [opsAt, List.filterMap_cons, List.filterMap_nil, List.getElem?_toArray, List.getElem?_cons_succ, List.getElem?_cons_zero]
       repeat still_step
       refine wpStill_nil ?_
       exact hK
      refine plan_nil ?_
      go_wp2
      go_roundw
      case rel => exact ⟨k + 1, by omega, by go_num, Lib.hid ⟨O8.out, K8.out⟩, LN⟩
      case measure => simp [intOf]; omega
    obtain rfl : k = P.length := by omega
    have et : (certsOf P).take P.length = certsOf P := by rw [← certsOf_length P, List.take_length]
    rw [et] at HI HJ
    obtain ⟨N2, hN2⟩ : ∃ N2, N2 = N ++ wordsC (certsOf P) := ⟨_, rfl⟩
    rw [← hN2] at HI HJ FIN
    clear hN2 et
    obtain ⟨ya, yc, eb⟩ := own_shape HI.out.1
    subst eb
    have M0 := Lib.hid HI.out.1
    have KM := Lib.hid HI.out.2
    have hm0 := HJ.out
    have c2 := cell_of (o := 2) (BX.out wr KM.out) rfl
    clear HI HJ hlt hk HN0 KN hn0
    go_wp2
    clear c2
    obtain ⟨wo, hwo⟩ : ∃ wo, wo = wr := ⟨_, rfl⟩
    subst hwo
    go_loopw [3, 96] (fun sv iv wr => ∃ k : Nat, k ≤ L.length ∧ iv = .int .i64 k ∧ Hid (wr.ownsRow w1.heap.size 57 1 sv (N2 ++ wordsE (L.take k)).length (wcells (N2 ++ wordsE (L.take k))) ∧ Chg (fun _ => False) w1 wr) ∧ Hid ((N2 ++ wordsE (L.take k)).length ≤ 9438016 + 1048576 * k)) (fun _ iv _ => L.length - (intOf iv).toNat)
    case atStart => exact ⟨0, by omega, rfl, Lib.hid ⟨by simpa [wordsE] using M0.out, KM.out⟩, Lib.hid (by simp [wordsE]; omega)⟩
    case round =>
     obtain ⟨k, hk, rfl, HI, HJ⟩ := hrel
     by_cases hlt : k < L.length
     · as_aux_lemma =>
       obtain ⟨ya, yc, eb⟩ := own_shape HI.out.1
       subst eb
       have hn1 : (N2 ++ wordsE (L.take k)).length ≤ 30409536 := by have := HJ.out; omega
       have hN2 := HJ.out
       have g1 : decide ((k : Int) < (L.length : Int)) = true := decide_eq_true (by omega)
       have g1' : decide (k < L.length) = true := decide_eq_true hlt
       obtain ⟨x, hx⟩ : ∃ x, L[k]? = some x := ⟨_, List.getElem?_eq_getElem hlt⟩
       obtain ⟨g, o, sa, sc, hla, hlb, _, d1, hs⟩ := (HL.out.chg (K1.out.trans HI.out.2) (fun _ _ e => e)).get hx
       cases hla
       have NX := Lib.hid (show N2 ++ wordsE (L.take (k + 1)) = (N2 ++ wordsE (L.take k)) ++ x.2 by rw [wordsE_succ hx, List.append_assoc])
       have hfl := UW.out k x hx
       have SRC := Lib.hid (words_src hs.at_)
       have NIL2 := Lib.hid (show sa = none → x.2.length = 0 ∧ sc = 0 from fun e => hs.nil _ _ (by rw [e]))
       have x0 := cell_of (o := 2) (BX.out wr HI.out.2) rfl
       have hsz : w1.heap.size ≤ wr.heap.size := HI.out.2.size
       clear hx hs HJ
       obtain ⟨M, hM⟩ : ∃ M, M = N2 ++ wordsE (L.take k) := ⟨_, rfl⟩
       rw [← hM] at HI hn1 NX hN2
       rw [← hM]
       clear hM
       obtain ⟨xo, xw⟩ := x
       simp only at d1 NX hfl SRC NIL2
       go_wp2_with (at_builtin; refine wpList_pushT rfl (.tmp 99) (.tmp 105) 25 26 rfl 57 57 1 16 Tryz.underlying25 Tryz.underlying26 Tryz.elemWord w1.heap.size (.slice ya M.length yc) M.length (wcells M) rfl HI.out.1 sa xw.length sc (wcells xw) rfl ?j1 ?j2 ?j3 ?j4 ?j5 ?j6 ?j7 ?j8)
       case j1 => rw [wcells_length]
       case j2 => exact SRC.out
       case j3 => exact fun e => by simpa using NIL2.out e
       case j4 => exact wcells_one _
       case j5 => omega
       case j6 => unfold maxLen; omega
       intro v8 w8 o8 g8
       obtain ⟨a8, c8, rfl⟩ := own_shape o8
       have K8 := Lib.hid (own_next HI.out.1 HI.out.2 g8)
       have O8 := Lib.hid (show w8.ownsRow w1.heap.size 57 1 (.slice a8 (M.length + xw.length) c8) (N2 ++ wordsE (L.take (k + 1))).length (wcells (N2 ++ wordsE (L.take (k + 1)))) by rw [NX.out, wcells_append, List.length_append]; exact o8)
       have LN := Lib.hid (show (N2 ++ wordsE (L.take (k + 1))).length ≤ 9438016 + 1048576 * (k + 1) by rw [NX.out, List.length_append]; omega)
       clear SRC NIL2 g8 o8 HI NX x0 d1
       go_wp2
       go_roundw
       case rel => exact ⟨k + 1, by omega, by go_num, Lib.hid ⟨O8.out, K8.out⟩, LN⟩
       case measure => simp [intOf]; omega
     obtain rfl : k = L.length := by omega
     rw [List.take_length] at HI HJ
     obtain ⟨M, hM⟩ : ∃ M, M = N2 ++ wordsE L := ⟨_, rfl⟩
     rw [← hM] at HI HJ FIN
     clear hM M0 KM hm0
     obtain ⟨ya, yc, eb⟩ := own_shape HI.out.1
     subst eb
     have HM := Lib.hid HI.out.1
     have KM := Lib.hid HI.out.2
     have hml := HJ.out
     clear HI HJ hlt hk
     by_cases h12 : 1200 < M.length
     · as_aux_lemma =>
       have g1 : decide (1200 < (M.length : Int)) = true := decide_eq_true (by omega)
       have g1' : decide (1200 < M.length) = true := decide_eq_true h12
       go_wp2
       go_ret
       exact ⟨true, rfl, K1.out.trans KM.out, fun e => by cases e⟩
     have g1 : decide (1200 < (M.length : Int)) = false := decide_eq_false (by omega)
     have g1' : decide (1200 < M.length) = false := decide_eq_false h12
     have FIN2 := Lib.hid (fun h => FIN.out (by rw [certsOf_length]; exact HX.out) (show M.length ≤ 1200 from by omega) h)
     go_wp2
     clear g1 g1'
     obtain ⟨wo2, hwo⟩ : ∃ wo2, wo2 = wr := ⟨_, rfl⟩
     subst hwo
     go_loopw [113] (fun iv wr => ∃ k : Nat, k ≤ M.length ∧ iv = .int .i64 k ∧ Hid (wo2 = wr) ∧ Hid (∀ (j : Nat) x, j < k → M[j]? = some x → x.size ≤ 100)) (fun iv _ => M.length - (intOf iv).toNat)
     case atStart => exact ⟨0, by omega, rfl, Lib.hid rfl, Lib.hid (fun j r hj => by omega)⟩
     case round =>
      obtain ⟨k, hk, rfl, hw, HI⟩ := hrel
      have hw := hw.out
      subst hw
      by_cases hlt : k < M.length
      rotate_left
      · as_aux_lemma =>
        obtain rfl : k = M.length := by omega
        have g1 : decide ((M.length : Int) < (M.length : Int)) = false := decide_eq_false (by omega)
        have g1' : decide (M.length < M.length) = false := decide_eq_false (by omega)
        go_wp2
        go_ret
        exact ⟨false, rfl, K1.out.trans KM.out, fun _ => FIN2.out fun x hx => by
         obtain ⟨j, hj⟩ := List.mem_iff_getElem?.1 hx
         exact HI.out j x (List.getElem?_eq_some_iff.1 hj).1 hj⟩
      as_aux_lemma =>
      have g1 : decide ((k : Int) < (M.length : Int)) = true := decide_eq_true (by omega)
      have g1' : decide (k < M.length) = true := decide_eq_true hlt
      obtain ⟨x, hx⟩ : ∃ x, M[k]? = some x := ⟨_, List.getElem?_eq_getElem hlt⟩
      obtain ⟨_, _, e1, _, hcs⟩ := own_get HM.out
      cases e1
      obtain ⟨g, rfl, _, c0⟩ := hcs k (.string x) (by unfold wcells; rw [List.getElem?_map, hx]; rfl)
      have c0' : wo2.cell? ⟨g, k, none⟩ = some (.string x) := c0
      have NX := Lib.hid (show x.size ≤ 100 → ∀ (j : Nat) y, j < k + 1 → M[j]? = some y → y.size ≤ 100 from fun z j y hj hjy => by
       rcases Nat.lt_or_ge j k with q | q
       · exact HI.out j y q hjy
       · obtain rfl : j = k := by omega
         rw [hx] at hjy; cases hjy
         exact z)
      clear hcs hx c0 HI
      by_cases h100 : 100 < x.size
      · have m3 : decide (100 < (x.size : Int)) = true := decide_eq_true (by omega)
        have m3' : decide (100 < x.size) = true := decide_eq_true h100
        go_wp2
        go_ret
        exact ⟨true, rfl, K1.out.trans KM.out, fun e => by cases e⟩
      have m3 : decide (100 < (x.size : Int)) = false := decide_eq_false (by omega)
      have m3' : decide (100 < x.size) = false := decide_eq_false h100
      have NX2 := Lib.hid (NX.out (by omega))
      go_wp2
      go_roundw
      case rel => exact ⟨k + 1, by omega, by go_num, Lib.hid (by first | trivial | rfl), NX2⟩
      case measure => simp [intOf]; omega
end Go.Proofs.YthdfplafihmejaaGreat
