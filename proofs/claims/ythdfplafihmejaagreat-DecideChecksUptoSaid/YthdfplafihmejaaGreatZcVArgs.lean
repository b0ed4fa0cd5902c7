/-
  Layer 17: large. Proofs that come in; proofs that are the same (the reference's Steps and Same). What the arguments' readings say: what is asked, small in the whole. What the arguments' readings say: a why.
-/
import Derived.Test.YthdfplafihmejaaGreatZcPushT
import Derived.Test.YthdfplafihmejaaGreatZcAEnt
import Derived.Deep.DeepCutAuto
import Derived.Deep.CutBlock
import Derived.Test.YthdfplafihmejaaGreatZcQAt
import Derived.Test.YthdfplafihmejaaGreatZcQNeed
import Derived.Test.YthdfplafihmejaaGreatZcVPlain2
import Derived.Test.YthdfplafihmejaaGreatRows
import Derived.Test.YthdfplafihmejaaGreatZcVCheck
namespace Go.Proofs.YthdfplafihmejaaGreat
open Go.RowKit Go.Maps
def yX (L : List zW) : List ByteArray := L.flatMap fun x => x.2
theorem zgh {L : List zW} {k : Nat} {x : zW} (h : L[k]? = some x) : yX (L.take (k + 1)) = yX (L.take k) ++ x.2 := by
 unfold yX;rw [List.take_add_one, h, List.flatMap_append];simp
structure zot (R : List zA) (C : List zn) (L : List zW) (c : List ByteArray) : Prop where
 rules : R.length <= 1048576
 certs : C.length <= 1048576
 ents : L.length <= 1048576
 set : c.length <= 1048576
 fr : ∀ k ∈ C, k.fr.length <= 1048576
 who : ∀ x ∈ L, x.2.length <= 1048576
structure zjk (R : List zA) (C : List zn) (L : List zW) (c : List ByteArray) : Prop where
 certs : C.length <= 8
 rules : R.length <= 12 ∨ 400 < R.length
 ents : L.length <= 20
 word : ∀ r ∈ R.take 401, r.1.size <= 100 ∧ r.2.size <= 100
 cert : ∀ k ∈ C, k.sp.size <= 100 ∧ k.fr.length <= 1200 ∧ ∀ x ∈ k.fr, x.size <= 100
 who : ∀ x ∈ L, x.2.length <= 1200 ∧ ∀ z ∈ x.2, z.size <= 100
 set : c.length <= 1200 ∧ ∀ x ∈ c, x.size <= 100
theorem zlZ {R : List zA} {C : List zn} {L : List zW} {c : List ByteArray} (h1 : C.length <= 8 ∧ (R.length <= 12 ∨ 400 < R.length) ∧ L.length <= 20) (hl : ((c ++ YJ (R.take 401)) ++ yY C ++ yX L).length <= 1200) (h : ∀ x ∈ (c ++ YJ (R.take 401)) ++ yY C ++ yX L, x.size <= 100) : zjk R C L c := by
 have hc : ∀ k ∈ C, ∀ x ∈ (k.sp :: k.fr), x.size <= 100 := fun k hk x hx => h x (List.mem_append_left _ (List.mem_append_right _ (List.mem_flatMap.2 ⟨k, hk, hx⟩)));have hw : ∀ x ∈ L, ∀ z ∈ x.2, z.size <= 100 := fun x hx z hz => h z (List.mem_append_right _ (List.mem_flatMap.2 ⟨x, hx, hz⟩));rw [List.length_append, List.length_append, List.length_append] at hl
 have lc : ∀ k ∈ C, k.fr.length <= (yY C).length := fun k hk => by
  unfold yY;obtain ⟨s, t, rfl⟩ := List.append_of_mem hk;rw [List.flatMap_append, List.flatMap_cons, List.length_append, List.length_append, List.length_cons];omega
 have lw : ∀ x ∈ L, x.2.length <= (yX L).length := fun x hx => by
  unfold yX;obtain ⟨s, t, rfl⟩ := List.append_of_mem hx;rw [List.flatMap_append, List.flatMap_cons, List.length_append, List.length_append];omega
 refine ⟨h1.1, h1.2.1, h1.2.2, fun r hr => ?_, fun k hk => ⟨hc k hk _ (by simp), by have := lc k hk; omega, fun x hx => hc k hk x (List.mem_cons_of_mem _ hx)⟩, fun x hx => ⟨by have := lw x hx; omega, hw x hx⟩, by omega, fun x hx => h x (List.mem_append_left _ (List.mem_append_left _ (List.mem_append_left _ hx)))⟩;have q : ∀ x ∈ [r.1, r.2], x.size <= 100 := fun x hx => h x (List.mem_append_left _ (List.mem_append_left _ (List.mem_append_right _ (List.mem_flatMap.2 ⟨r, hr, hx⟩))));exact ⟨q _ (by simp), q _ (by simp)⟩
def zee (w : World) (R : List zA) (C : List zn) (L : List zW) (c : List ByteArray) (e : Ending) (w' : World) : Prop := ∃ b : Bool, e = .returned (.bool b) ∧ Chg (fun _ => False) w w' ∧ (b = false -> zjk R C L c)
set_option maxHeartbeats 8000000 in
set_option maxRecDepth 100000 in
theorem zgZ (w : World) (ra : Option Addr) (R : List zA) (rc : Nat) (v lv cv : Value) (P : List (zn × Value)) (L : List zW) (op bo : Int) (c : List ByteArray) (hR : zM w (.slice ra R.length rc) (· < w.heap.size) R) (hv : yb w v (· < w.heap.size) P) (hl : Zu w lv (· < w.heap.size) L) (hc : Yo w cv (· < w.heap.size) c) (hu : zot R (zj P) L c) :
  Calls Tryz.prog 10 #[.agg #[.slice ra R.length rc, v, lv, .int .i64 op, cv, .int .i64 bo]] w (zee w R (zj P) L c) := by
 have k1 := zh (fun _ => False) w (.cells #[.slice ra R.length rc, v, lv, .int .i64 op, cv, .int .i64 bo] 28);have O1 := zb (zf w (.cells #[.slice ra R.length rc, v, lv, .int .i64 op, cv, .int .i64 bo] 28));have K1 := zb k1;have HR := zb hR;have HV := zb hv;have HL := zb hl;have HC := zb hc;have HU := zb hu;obtain ⟨_, _, e0, hr0, _⟩ := hR;cases e0;obtain ⟨la, lcap, rfl, hl0, _⟩ := hv;obtain ⟨xla, xlc, rfl, _, _⟩ := hl.shape;obtain ⟨xca, xcc, rfl, _, _⟩ := id hc.at_;have NIL := zb (show xca = none -> c.length = 0 ∧ xcc = 0 from fun e => hc.nil _ _ (by rw [e]));have ur := hu.rules;have up := hu.certs;have ul := hu.ents;have uc := hu.set;rw [zO] at up;have FIN := zb (@zlZ R (zj P) L c);clear hl hc hu k1 hr0 hl0;go_enter Tryz.func10, Tryz.ntmps10;go_upto_region 1 with fail;have c0 := ze (o := 0) O1.out rfl;have c1 := ze (o := 1) O1.out rfl;have c2 := ze (o := 2) O1.out rfl;have c5 := ze (o := 5) O1.out rfl;generalize w.alloc (.cells #[.slice ra R.length rc, .slice la P.length lcap, .slice xla L.length xlc, .int .i64 op, .slice xca c.length xcc, .int .i64 bo] 28) = w1 at *;obtain ⟨b0, hb0⟩ : ∃ b0, b0 = w.heap.size := ⟨_, rfl⟩;rw [<- hb0] at O1 c0 c1 c2 c5;rw [<- hb0];clear hb0;have BX := zb (fun (W : World) (k : Chg (fun _ => False) w1 W) => show W.heap[b0]? = some (.cells #[.slice ra R.length rc, .slice la P.length lcap, .slice xla L.length xlc, .int .i64 op, .slice xca c.length xcc, .int .i64 bo] 28 (0, 0)) from k.obj (fun e => e) O1.out);go_cut [39] (fun cv wc => ∃ x : Bool, cv = .bool x ∧ Hid (w1 = wc) ∧ Hid (x = false -> P.length <= 8 ∧ (R.length <= 12 ∨ 400 < R.length) ∧ L.length <= 20))
 case first =>
  by_cases h8 : 8 < P.length
  · have g8 : decide (8 < (P.length : Int)) = true := decide_eq_true (by omega)
    have g8' : decide (8 < P.length) = true := decide_eq_true h8;go_wp2;go_meet
    case rel => exact ⟨true, rfl, zb rfl, zb (fun e => by cases e)⟩
  have g8 : decide (8 < (P.length : Int)) = false := decide_eq_false (by omega);have g8' : decide (8 < P.length) = false := decide_eq_false h8;have fin1 : (R.length <= 12 ∨ 400 < R.length) -> ∀ x : Bool, (x = false -> L.length <= 20) -> (x = false -> P.length <= 8 ∧ (R.length <= 12 ∨ 400 < R.length) ∧ L.length <= 20) := fun q x h e => ⟨by omega, q, h e⟩;have FIN1 := zb fin1;clear fin1;have tail : True := trivial;by_cases h12 : 12 < R.length
  · have g12 : decide (12 < (R.length : Int)) = true := decide_eq_true (by omega)
    have g12' : decide (12 < R.length) = true := decide_eq_true h12;by_cases h400 : R.length <= 400
    · have g4 : decide ((R.length : Int) <= 400) = true := decide_eq_true (by omega)
      have g4' : decide (R.length <= 400) = true := decide_eq_true h400;go_wp2;go_meet
      case rel => exact ⟨true, rfl, zb rfl, zb (fun e => by cases e)⟩
    have g4 : decide ((R.length : Int) <= 400) = false := decide_eq_false (by omega);have g4' : decide (R.length <= 400) = false := decide_eq_false h400;have RR := zb (show R.length <= 12 ∨ 400 < R.length from .inr (by omega));by_cases h40 : 40 < bo
    · have g40 : decide (40 < bo) = true := decide_eq_true h40
      by_cases h50 : bo <= 5000
      · have g50 : decide (bo <= 5000) = true := decide_eq_true h50
        go_wp2;go_meet
        case rel => exact ⟨true, rfl, zb rfl, zb (fun e => by cases e)⟩
      · have g50 : decide (bo <= 5000) = false := decide_eq_false h50
        by_cases h20 : 20 < L.length
        · have g20 : decide (20 < (L.length : Int)) = true := decide_eq_true (by omega)
          have g20' : decide (20 < L.length) = true := decide_eq_true h20;go_wp2;go_meet
          case rel => exact ⟨true, rfl, zb rfl, zb (fun e => by cases e)⟩
        · have g20 : decide (20 < (L.length : Int)) = false := decide_eq_false (by omega)
          have g20' : decide (20 < L.length) = false := decide_eq_false h20;go_wp2;go_meet
          case rel => exact ⟨false, rfl, zb rfl, zb (FIN1.out RR.out _ fun _ => by omega)⟩
    · have g40 : decide (40 < bo) = false := decide_eq_false h40
      by_cases h20 : 20 < L.length
      · have g20 : decide (20 < (L.length : Int)) = true := decide_eq_true (by omega)
        have g20' : decide (20 < L.length) = true := decide_eq_true h20;go_wp2;go_meet
        case rel => exact ⟨true, rfl, zb rfl, zb (fun e => by cases e)⟩
      · have g20 : decide (20 < (L.length : Int)) = false := decide_eq_false (by omega)
        have g20' : decide (20 < L.length) = false := decide_eq_false h20;go_wp2;go_meet
        case rel => exact ⟨false, rfl, zb rfl, zb (FIN1.out RR.out _ fun _ => by omega)⟩
  have g12 : decide (12 < (R.length : Int)) = false := decide_eq_false (by omega);have g12' : decide (12 < R.length) = false := decide_eq_false h12;have RR := zb (show R.length <= 12 ∨ 400 < R.length from .inl (by omega));by_cases h40 : 40 < bo
  · have g40 : decide (40 < bo) = true := decide_eq_true h40
    by_cases h50 : bo <= 5000
    · have g50 : decide (bo <= 5000) = true := decide_eq_true h50
      go_wp2;go_meet
      case rel => exact ⟨true, rfl, zb rfl, zb (fun e => by cases e)⟩
    · have g50 : decide (bo <= 5000) = false := decide_eq_false h50
      by_cases h20 : 20 < L.length
      · have g20 : decide (20 < (L.length : Int)) = true := decide_eq_true (by omega)
        have g20' : decide (20 < L.length) = true := decide_eq_true h20;go_wp2;go_meet
        case rel => exact ⟨true, rfl, zb rfl, zb (fun e => by cases e)⟩
      · have g20 : decide (20 < (L.length : Int)) = false := decide_eq_false (by omega)
        have g20' : decide (20 < L.length) = false := decide_eq_false h20;go_wp2;go_meet
        case rel => exact ⟨false, rfl, zb rfl, zb (FIN1.out RR.out _ fun _ => by omega)⟩
  · have g40 : decide (40 < bo) = false := decide_eq_false h40
    by_cases h20 : 20 < L.length
    · have g20 : decide (20 < (L.length : Int)) = true := decide_eq_true (by omega)
      have g20' : decide (20 < L.length) = true := decide_eq_true h20;go_wp2;go_meet
      case rel => exact ⟨true, rfl, zb rfl, zb (fun e => by cases e)⟩
    · have g20 : decide (20 < (L.length : Int)) = false := decide_eq_false (by omega)
      have g20' : decide (20 < L.length) = false := decide_eq_false h20;go_wp2;go_meet
      case rel => exact ⟨false, rfl, zb rfl, zb (FIN1.out RR.out _ fun _ => by omega)⟩
 case rest =>
  obtain ⟨x, rfl, hw, hx⟩ := hcut;have hw := hw.out;subst hw;cases x with
  | true =>
   go_wp2;go_ret;exact ⟨true, rfl, K1.out, fun e => by cases e⟩
  | false =>
  have HX := zb (hx.out rfl);have hP8 := HX.out.1;have hL20 := HX.out.2.2;clear hx c0 c1 c2 c5;have ke := zh (fun _ => False) w1 (.cells #[] 57);have c4 := ze (o := 4) (ke.obj (fun e => e) O1.out) rfl;have KE := zb ke;have SRC := zb (xX (HC.out.at_.chg (K1.out.trans ke) (fun _ _ e => e)));clear ke;go_wp2_with (at_builtin; refine XH rfl (.tmp 40) (.tmp 42) 25 26 rfl 57 57 1 16 Tryz.underlying25 Tryz.underlying26 Tryz.elemWord w1.heap.size _ 0 [] rfl (ZK _ _ _ _ (Nat.le_refl _)) xca c.length xcc (zC c) rfl ?a1 ?a2 ?a3 ?a4 ?a5 ?a6 ?a7 ?a8)
  case a1 => rw [Xj]
  case a2 => exact SRC.out
  case a3 => exact fun e => by simpa using NIL.out e
  case a4 => exact yZ _
  case a5 => omega
  intro v2 w2 o2 g2;obtain ⟨a2, ac2, rfl⟩ := zl o2;have O2 := zb (show w2.ownsRow w1.heap.size 57 1 (.slice a2 (0 + c.length) ac2) c.length (zC c) from by simpa using o2)
  have K2 := zb (show Chg (fun _ => False) w1 w2 from KE.out.next (Chg.of_grown g2) (fun x hx e => by
   have e2 : w1.heap.size = x := by simpa [Value.ownBlock] using e
   omega))
  clear o2 g2 SRC KE c4;obtain ⟨N, hN⟩ : ∃ N, N = c ++ YJ (R.take 401) := ⟨_, rfl⟩;have HN := zb hN;have NLE := zb (show N.length <= 1049400 from by rw [hN, List.length_append, za9, List.length_take]; omega);rw [<- hN] at FIN;clear hN;go_upto_block 0 with fail;go_cut [3] (fun sv wc => Hid (wc.ownsRow w1.heap.size 57 1 sv N.length (zC N) ∧ Chg (fun _ => False) w1 wc))
  case first =>
   go_wp2_with fail;go_loopw [3, 4] (fun sv iv wr => ∃ k : Nat, k <= R.length ∧ k <= 401 ∧ iv = .int .i64 k ∧ Hid (wr.ownsRow w1.heap.size 57 1 sv (c ++ YJ (R.take k)).length (zC (c ++ YJ (R.take k))) ∧ Chg (fun _ => False) w1 wr)) (fun _ iv _ => R.length - (intOf iv).toNat)
   case atStart => exact ⟨0, by omega, by omega, rfl, zb ⟨by simpa [YJ] using O2.out, K2.out⟩⟩
   case round =>
    obtain ⟨k, hk, hk4, rfl, HI⟩ := hrel;have hn1 : (c ++ YJ (R.take k)).length <= 1049400 := by rw [List.length_append, za9, List.length_take]; omega
    have x0 := ze (o := 0) (BX.out wr HI.out.2) rfl
    have ends : ¬ (k < R.length ∧ k <= 400) -> R.take k = R.take 401 := fun h => by
     by_cases q : k < R.length
     · have : k = 401 := by omega
       rw [this]
     · have : k = R.length := by omega
       rw [this, List.take_length, List.take_of_length_le (by omega)]
    have ENDS := zb ends;clear ends;by_cases hboth : k < R.length ∧ k <= 400
    · as_aux_lemma =>
      obtain ⟨ya, yc, eb⟩ := zl HI.out.1;subst eb;obtain ⟨hlt, h400⟩ := hboth;have g1 : decide ((k : Int) < (R.length : Int)) = true := decide_eq_true (by omega);have g1' : decide (k < R.length) = true := decide_eq_true hlt;have g2 : decide ((k : Int) <= 400) = true := decide_eq_true (by omega);have g2' : decide (k <= 400) = true := decide_eq_true h400;obtain ⟨⟨rf, rt⟩, hr⟩ : ∃ r, R[k]? = some r := ⟨_, List.getElem?_eq_getElem hlt⟩;obtain ⟨_, _, e1, _, hcl⟩ := (HR.out.chg (K1.out.trans HI.out.2) (fun _ _ e => e));cases e1;obtain ⟨lb, lo, rfl, hlb, c0, c1, z1, z2⟩ := hcl k _ hr;simp only at c0 c1 z1 z2;have NX := zb (show c ++ YJ (R.take (k + 1)) = (c ++ YJ (R.take k)) ++ [rf, rt] by rw [zgg hr, List.append_assoc]);have hsz : w1.heap.size <= wr.heap.size := HI.out.2.size;have hlb1 : lb < w1.heap.size := Nat.lt_of_lt_of_le hlb K1.out.size;have hbb : b0 < w1.heap.size := zq O1.out;clear hcl hr;obtain ⟨M, hM⟩ : ∃ M, M = c ++ YJ (R.take k) := ⟨_, rfl⟩;rw [<- hM] at HI hn1 NX;rw [<- hM];clear hM;go_wp2_with fail;refine zB (N := 123) [.rd [0, 1, 2, 3, 4, 5, 6, 7, 8, 9, 10, 11, 12], .ef 13, .ef 14, .rd [15]] (fun w' => w'.cell? ⟨b0, 0, none⟩ = some (.slice (some ⟨lb, lo, none⟩) R.length rc) ∧ w'.cell? ⟨lb, lo + k * 2, none⟩ = some (.string rf) ∧ w'.cell? ⟨lb, lo + k * 2 + 1, none⟩ = some (.string rt)) (by kernel_rfl) (by kernel_rfl) (by kernel_rfl) (by kernel_rfl) (Nat.le_of_ble_eq_true rfl) ⟨x0, c0, c1⟩ ?_;refine zH (A := ?A1) ?h1 ?h2
      case h1 =>
       rintro w' ⟨z0, z1, z2⟩ K hK;simp only [zT, List.filterMap_cons, List.filterMap_nil, List.getElem?_toArray, List.getElem?_cons_succ, List.getElem?_cons_zero]
       repeat still_step
       refine wpStill_nil ?_;exact hK
      have D := zb (zK (fun _ => False) wr);have y0 := zi D.out (fun e => e) x0;have e0 := zi D.out (fun e => e) c0;have e1 := zi D.out (fun e => e) c1;have HM := zb (zm HI.out.1 D.out (fun _ _ e => e));have KC := zb (HI.out.2.trans D.out);have hsz2 : w1.heap.size <= wr.drew.heap.size := KC.out.size;clear D c0 c1 HI x0;generalize wr.drew = wd at *;refine zP rfl ?_;go_wp2_with fail;have ka := zh (fun _ => False) wd (.cells #[.string rf, .string rt] 57);have ob := zf wd (.cells #[.string rf, .string rt] 57);have x0 := zi ka (fun e => e) y0;have f0 := zi ka (fun e => e) e0;have f1 := zi ka (fun e => e) e1;have HM2 := zb (zm HM.out ka (fun _ _ e => e));have KC2 := zb (KC.out.trans ka);have hsz3 : w1.heap.size <= (wd.alloc (.cells #[.string rf, .string rt] 57)).heap.size := KC2.out.size;have SRC := zb (show ∀ (j : Nat) u, (zC [rf, rt])[j]? = some u -> ∃ g o, some (⟨wd.heap.size, 0, none⟩ : Addr) = some ⟨g, o, none⟩ ∧ (wd.alloc (.cells #[.string rf, .string rt] 57)).cell? ⟨g, o + j, none⟩ = some u from fun j u hj => ⟨wd.heap.size, 0, rfl, by rw [Nat.zero_add]; exact ze ob (by simpa [zC] using hj)⟩);clear ka ob HM KC e0 e1 y0;refine ⟨⟨x0, f0, f1⟩, ?_⟩;refine zP rfl ?_;generalize wd.alloc (.cells #[.string rf, .string rt] 57) = we at *;refine zN rfl (.tmp 55) (.tmp 68) 25 rfl 57 1 16 Tryz.underlying25 Tryz.elemWord w1.heap.size (.slice ya M.length yc) M.length (zC M) rfl HM2.out (some ⟨wd.heap.size, 0, none⟩) 2 2 (zC [rf, rt]) rfl rfl SRC.out (fun e => by cases e) (yZ _) (by omega) (by unfold maxLen; omega) hsz3 ?_;intro v9 w9 o9 g9;obtain ⟨a9, c9, rfl⟩ := zl o9;have K9 := zb (zct HM2.out KC2.out g9);have O9 := zb (show w9.ownsRow w1.heap.size 57 1 (.slice a9 (M.length + 2) c9) (c ++ YJ (R.take (k + 1))).length (zC (c ++ YJ (R.take (k + 1)))) by rw [NX.out, List.length_append, Xk]; exact o9);have kg := Chg.of_grown g9;have nb : ∀ j, j < w1.heap.size -> ¬ (Value.slice ya M.length yc).ownBlock = some j := fun j hj e => by have := (HM2.out.lt j e).1; omega
      refine ⟨⟨zi kg (nb _ hbb) x0, zi kg (nb _ hlb1) f0, zi kg (nb _ hlb1) f1⟩, ?_⟩;clear kg nb f0 f1 x0 SRC g9 o9 HM2 KC2 hsz hsz2 hsz3 NX;refine zH (A := ?A2) ?h3 ?h4
      case h3 =>
       intro w' hS K hK;clear hS;simp only [zT, List.filterMap_cons, List.filterMap_nil, List.getElem?_toArray, List.getElem?_cons_succ, List.getElem?_cons_zero]
       repeat still_step
       refine wpStill_nil ?_;exact hK
      refine Zg ?_;go_wp2;go_roundw
      case rel => exact ⟨k + 1, by omega, by omega, by go_num, zb ⟨O9.out, K9.out⟩⟩
      case measure => simp [intOf]; omega
    have R1 := zb (show wr.ownsRow w1.heap.size 57 1 u3 N.length (zC N) ∧ Chg (fun _ => False) w1 wr from by
     have := HI.out;rw [ENDS.out hboth] at this;rw [HN.out]; exact this)
    clear HI hn1 ENDS
    rcases (show (decide ((k : Int) < (R.length : Int)) = false ∧ decide (k < R.length) = false) ∨ ((decide ((k : Int) < (R.length : Int)) = true ∧ decide (k < R.length) = true) ∧ decide ((k : Int) <= 400) = false ∧ decide (k <= 400) = false) from by
     by_cases q : k < R.length
     · exact .inr ⟨⟨decide_eq_true (by omega), decide_eq_true q⟩, decide_eq_false (by omega), decide_eq_false (by omega)⟩
     · exact .inl ⟨decide_eq_false (by omega), decide_eq_false q⟩) with ⟨g1, g1'⟩ | ⟨⟨g1, g1'⟩, g2, g2'⟩
    · clear hboth
      go_wp2;go_meet
      case rel => exact R1
    · clear hboth
      go_wp2;go_meet
      case rel => exact R1
  case rest =>
   obtain ⟨ya, yc, eb⟩ := zl hcut.out.1;subst eb;have HN0 := zb hcut.out.1;have KN := zb hcut.out.2;have hn0 := NLE.out;have c1 := ze (o := 1) (BX.out wc KN.out) rfl;have UF := zb (show ∀ (k : Nat) x, (zj P)[k]? = some x -> x.fr.length <= 1048576 from fun k x hx => HU.out.fr x (List.mem_of_getElem? hx));have UW := zb (show ∀ (k : Nat) x, L[k]? = some x -> x.2.length <= 1048576 from fun k x hx => HU.out.who x (List.mem_of_getElem? hx));have hbb : b0 < w1.heap.size := zq O1.out;have HW1 := zb K1.out.size;clear hcut O2 K2 NLE HU;go_wp2;clear c1;go_loopw [3, 73] (fun sv iv wr => ∃ k : Nat, k <= P.length ∧ iv = .int .i64 k ∧ Hid (wr.ownsRow w1.heap.size 57 1 sv (N ++ yY ((zj P).take k)).length (zC (N ++ yY ((zj P).take k))) ∧ Chg (fun _ => False) w1 wr) ∧ Hid ((N ++ yY ((zj P).take k)).length <= 1049400 + 1048577 * k)) (fun _ iv _ => P.length - (intOf iv).toNat)
   case atStart => exact ⟨0, by omega, rfl, zb ⟨by simpa [yY] using HN0.out, KN.out⟩, zb (by simpa [yY] using hn0)⟩
   case round =>
    obtain ⟨k, hk, rfl, HI, HJ⟩ := hrel;by_cases hlt : k < P.length
    · as_aux_lemma =>
      obtain ⟨ya, yc, eb⟩ := zl HI.out.1;subst eb;have hn1 : (N ++ yY ((zj P).take k)).length <= 9438016 := by have := HJ.out; omega
      have hN2 := HJ.out;have g1 : decide ((k : Int) < (P.length : Int)) = true := decide_eq_true (by omega);have g1' : decide (k < P.length) = true := decide_eq_true hlt;obtain ⟨⟨x, cv⟩, hr⟩ : ∃ r, P[k]? = some r := ⟨_, List.getElem?_eq_getElem hlt⟩;obtain ⟨_, _, e1, _, hcl⟩ := (HV.out.chg (K1.out.trans HI.out.2) (fun _ _ e => e));cases e1;obtain ⟨lb, lo, sa, sc, rfl, hlb, e5, _, _, c2, c3, _, _, _, hset⟩ := hcl k _ hr;simp only at c2 c3 hset;have HCK := zb (show (zj P)[k]? = some x by unfold zj; rw [List.getElem?_map, hr]; rfl);have NX := zb (show N ++ yY ((zj P).take (k + 1)) = (N ++ yY ((zj P).take k)) ++ (x.sp :: x.fr) by rw [zgi HCK.out, List.append_assoc]);have hfl := UF.out k x HCK.out;have hset := zb hset;have hlb1 : lb < w1.heap.size := Nat.lt_of_lt_of_le hlb HW1.out;have x0 := ze (o := 1) (BX.out wr HI.out.2) rfl;have hsz : w1.heap.size <= wr.heap.size := HI.out.2.size;clear hcl hr e5 HCK hlb;obtain ⟨M, hM⟩ : ∃ M, M = N ++ yY ((zj P).take k) := ⟨_, rfl⟩;rw [<- hM] at HI hn1 NX hN2;rw [<- hM];clear hM HJ;obtain ⟨kd, sg, sp, fr, cf, ct, cn⟩ := x;simp only at c2 c3 hset NX hfl;go_wp2_with fail;refine zB (N := 123) [.rd [0, 1, 2, 3, 4, 5, 6, 9, 10, 11, 12, 13, 14], .ef 7, .ef 8, .ef 15, .rd [16]] (fun w' => w'.cell? ⟨b0, 1, none⟩ = some (.slice (some ⟨lb, lo, none⟩) P.length lcap) ∧ w'.cell? ⟨lb, lo + k * 7 + 2, none⟩ = some (.string sp) ∧ w'.cell? ⟨lb, lo + k * 7 + 3, none⟩ = some (.slice sa fr.length sc)) (by kernel_rfl) (by kernel_rfl) (by kernel_rfl) (by kernel_rfl) (Nat.le_of_ble_eq_true rfl) ⟨x0, c2, c3⟩ ?_;refine zH (A := ?B1) ?i1 ?i2
      case i1 =>
       rintro w' ⟨z0, z1, z2⟩ K hK;simp only [zT, List.filterMap_cons, List.filterMap_nil, List.getElem?_toArray, List.getElem?_cons_succ, List.getElem?_cons_zero]
       repeat still_step
       refine wpStill_nil ?_;exact hK
      have D := zb (zK (fun _ => False) wr);have y0 := zi D.out (fun e => e) x0;have e0 := zi D.out (fun e => e) c2;have e1 := zi D.out (fun e => e) c3;have HM := zb (zm HI.out.1 D.out (fun _ _ e => e));have KC := zb (HI.out.2.trans D.out);have HS := zb (hset.out.set.chg D.out (fun _ _ e => e));have hsz2 : w1.heap.size <= wr.drew.heap.size := KC.out.size;clear D c2 c3 HI hset x0;generalize wr.drew = wd at *;refine zP rfl ?_;go_wp2_with fail;have ka := zh (fun _ => False) wd (.cells #[.string sp] 57);have ob := zf wd (.cells #[.string sp] 57);have x0 := zi ka (fun e => e) y0;have f0 := zi ka (fun e => e) e0;have f1 := zi ka (fun e => e) e1;have HM2 := zb (zm HM.out ka (fun _ _ e => e));have KC2 := zb (KC.out.trans ka);have HS2 := zb (HS.out.chg ka (fun _ _ e => e));have hsz3 : w1.heap.size <= (wd.alloc (.cells #[.string sp] 57)).heap.size := KC2.out.size;have SRC := zb (show ∀ (j : Nat) u, (zC [sp])[j]? = some u -> ∃ g o, some (⟨wd.heap.size, 0, none⟩ : Addr) = some ⟨g, o, none⟩ ∧ (wd.alloc (.cells #[.string sp] 57)).cell? ⟨g, o + j, none⟩ = some u from fun j u hj => ⟨wd.heap.size, 0, rfl, by rw [Nat.zero_add]; exact ze ob (by simpa [zC] using hj)⟩);clear ka ob HM KC e0 e1 HS y0;refine ⟨⟨x0, f0, f1⟩, ?_⟩;refine zP rfl ?_;generalize wd.alloc (.cells #[.string sp] 57) = we at *;refine zN rfl (.tmp 76) (.tmp 83) 25 rfl 57 1 16 Tryz.underlying25 Tryz.elemWord w1.heap.size (.slice ya M.length yc) M.length (zC M) rfl HM2.out (some ⟨wd.heap.size, 0, none⟩) 1 1 (zC [sp]) rfl rfl SRC.out (fun e => by cases e) (yZ _) (by omega) (by unfold maxLen; omega) hsz3 ?_;intro v9 w9 o9 g9;obtain ⟨a9, c9, rfl⟩ := zl o9;have K9 := zb (zct HM2.out KC2.out g9);have O9 := zb (show w9.ownsRow w1.heap.size 57 1 (.slice a9 (M.length + 1) c9) (M.length + 1) (zC M ++ zC [sp]) from o9);have kg := Chg.of_grown g9;have nb : ∀ j, j < w1.heap.size -> ¬ (Value.slice ya M.length yc).ownBlock = some j := fun j hj e => by have := (HM2.out.lt j e).1; omega
      have f9 := zi kg (nb b0 hbb) x0;have f2 := zi kg (nb lb hlb1) f0;have f3 := zi kg (nb lb hlb1) f1;have HS3 := zb (HS2.out.chg kg (fun j hj e => nb j (Nat.lt_of_lt_of_le hj HW1.out) e));have hsz4 : w1.heap.size <= w9.heap.size := K9.out.size;refine ⟨⟨f9, f2, f3⟩, ?_⟩;clear kg nb f0 f1 x0 SRC g9 o9 HM2 KC2 hsz hsz2 hsz3 HS2;refine zP rfl ?_;have SRC2 := zb (xX HS3.out.at_);have NIL2 := zb (show sa = none -> fr.length = 0 ∧ sc = 0 from fun e => HS3.out.nil _ _ (by rw [e]));refine XH rfl (.tmp 84) (.tmp 90) 25 26 rfl 57 57 1 16 Tryz.underlying25 Tryz.underlying26 Tryz.elemWord w1.heap.size (.slice a9 (M.length + 1) c9) (M.length + 1) (zC M ++ zC [sp]) rfl O9.out sa fr.length sc (zC fr) rfl (by rw [Xj, Nat.mul_one]) SRC2.out NIL2.out (yZ _) (by omega) (by unfold maxLen; omega) hsz4 ?_;intro v8 w8 o8 g8;obtain ⟨a8, c8, rfl⟩ := zl o8;have K8 := zb (zct O9.out K9.out g8)
      have O8 := zb (show w8.ownsRow w1.heap.size 57 1 (.slice a8 (M.length + 1 + fr.length) c8) (N ++ yY ((zj P).take (k + 1))).length (zC (N ++ yY ((zj P).take (k + 1)))) by
       rw [NX.out, Xk, List.length_append, List.length_cons];have e7 : M.length + (fr.length + 1) = M.length + 1 + fr.length := by omega
       rw [e7];have e8 : zC M ++ zC (sp :: fr) = zC M ++ zC [sp] ++ zC fr := by rw [List.append_assoc]; rfl
       rw [e8];exact o8)
      have LN := zb (show (N ++ yY ((zj P).take (k + 1))).length <= 1049400 + 1048577 * (k + 1) by rw [NX.out, List.length_append, List.length_cons]; omega);have kg := Chg.of_grown g8;have nb : ∀ j, j < w1.heap.size -> ¬ (Value.slice a9 (M.length + 1) c9).ownBlock = some j := fun j hj e => by have := (O9.out.lt j e).1; omega
      refine ⟨⟨zi kg (nb b0 hbb) f9, zi kg (nb lb hlb1) f2, zi kg (nb lb hlb1) f3⟩, ?_⟩;clear kg nb f2 f3 f9 SRC2 NIL2 g8 o8 K9 O9 hsz4 NX HS3;refine zH (A := ?B2) ?i3 ?i4
      case i3 =>
       intro w' hS K hK;clear hS;simp only [zT, List.filterMap_cons, List.filterMap_nil, List.getElem?_toArray, List.getElem?_cons_succ, List.getElem?_cons_zero]
       repeat still_step
       refine wpStill_nil ?_;exact hK
      refine Zg ?_;go_wp2;go_roundw
      case rel => exact ⟨k + 1, by omega, by go_num, zb ⟨O8.out, K8.out⟩, LN⟩
      case measure => simp [intOf]; omega
    obtain rfl : k = P.length := by omega
    have et : (zj P).take P.length = zj P := by rw [<- zO P, List.take_length]
    rw [et] at HI HJ;obtain ⟨N2, hN2⟩ : ∃ N2, N2 = N ++ yY (zj P) := ⟨_, rfl⟩;rw [<- hN2] at HI HJ FIN;clear hN2 et;obtain ⟨ya, yc, eb⟩ := zl HI.out.1;subst eb;have M0 := zb HI.out.1;have KM := zb HI.out.2;have hm0 := HJ.out;have c2 := ze (o := 2) (BX.out wr KM.out) rfl;clear HI HJ hlt hk HN0 KN hn0;go_wp2;clear c2;obtain ⟨wo, hwo⟩ : ∃ wo, wo = wr := ⟨_, rfl⟩;subst hwo;go_loopw [3, 96] (fun sv iv wr => ∃ k : Nat, k <= L.length ∧ iv = .int .i64 k ∧ Hid (wr.ownsRow w1.heap.size 57 1 sv (N2 ++ yX (L.take k)).length (zC (N2 ++ yX (L.take k))) ∧ Chg (fun _ => False) w1 wr) ∧ Hid ((N2 ++ yX (L.take k)).length <= 9438016 + 1048576 * k)) (fun _ iv _ => L.length - (intOf iv).toNat)
    case atStart => exact ⟨0, by omega, rfl, zb ⟨by simpa [yX] using M0.out, KM.out⟩, zb (by simp [yX]; omega)⟩
    case round =>
     obtain ⟨k, hk, rfl, HI, HJ⟩ := hrel;by_cases hlt : k < L.length
     · as_aux_lemma =>
       obtain ⟨ya, yc, eb⟩ := zl HI.out.1;subst eb;have hn1 : (N2 ++ yX (L.take k)).length <= 30409536 := by have := HJ.out; omega
       have hN2 := HJ.out;have g1 : decide ((k : Int) < (L.length : Int)) = true := decide_eq_true (by omega);have g1' : decide (k < L.length) = true := decide_eq_true hlt;obtain ⟨x, hx⟩ : ∃ x, L[k]? = some x := ⟨_, List.getElem?_eq_getElem hlt⟩;obtain ⟨g, o, sa, sc, hla, hlb, _, d1, hs⟩ := (HL.out.chg (K1.out.trans HI.out.2) (fun _ _ e => e)).get hx;cases hla;have NX := zb (show N2 ++ yX (L.take (k + 1)) = (N2 ++ yX (L.take k)) ++ x.2 by rw [zgh hx, List.append_assoc]);have hfl := UW.out k x hx;have SRC := zb (xX hs.at_);have NIL2 := zb (show sa = none -> x.2.length = 0 ∧ sc = 0 from fun e => hs.nil _ _ (by rw [e]));have x0 := ze (o := 2) (BX.out wr HI.out.2) rfl;have hsz : w1.heap.size <= wr.heap.size := HI.out.2.size;clear hx hs HJ;obtain ⟨M, hM⟩ : ∃ M, M = N2 ++ yX (L.take k) := ⟨_, rfl⟩;rw [<- hM] at HI hn1 NX hN2;rw [<- hM];clear hM;obtain ⟨xo, xw⟩ := x;simp only at d1 NX hfl SRC NIL2;go_wp2_with (at_builtin; refine XH rfl (.tmp 99) (.tmp 105) 25 26 rfl 57 57 1 16 Tryz.underlying25 Tryz.underlying26 Tryz.elemWord w1.heap.size (.slice ya M.length yc) M.length (zC M) rfl HI.out.1 sa xw.length sc (zC xw) rfl ?j1 ?j2 ?j3 ?j4 ?j5 ?j6 ?j7 ?j8)
       case j1 => rw [Xj]
       case j2 => exact SRC.out
       case j3 => exact fun e => by simpa using NIL2.out e
       case j4 => exact yZ _
       case j5 => omega
       case j6 => unfold maxLen; omega
       intro v8 w8 o8 g8;obtain ⟨a8, c8, rfl⟩ := zl o8;have K8 := zb (zct HI.out.1 HI.out.2 g8);have O8 := zb (show w8.ownsRow w1.heap.size 57 1 (.slice a8 (M.length + xw.length) c8) (N2 ++ yX (L.take (k + 1))).length (zC (N2 ++ yX (L.take (k + 1)))) by rw [NX.out, Xk, List.length_append]; exact o8);have LN := zb (show (N2 ++ yX (L.take (k + 1))).length <= 9438016 + 1048576 * (k + 1) by rw [NX.out, List.length_append]; omega);clear SRC NIL2 g8 o8 HI NX x0 d1;go_wp2;go_roundw
       case rel => exact ⟨k + 1, by omega, by go_num, zb ⟨O8.out, K8.out⟩, LN⟩
       case measure => simp [intOf]; omega
     obtain rfl : k = L.length := by omega
     rw [List.take_length] at HI HJ;obtain ⟨M, hM⟩ : ∃ M, M = N2 ++ yX L := ⟨_, rfl⟩;rw [<- hM] at HI HJ FIN;clear hM M0 KM hm0;obtain ⟨ya, yc, eb⟩ := zl HI.out.1;subst eb;have HM := zb HI.out.1;have KM := zb HI.out.2;have hml := HJ.out;clear HI HJ hlt hk;by_cases h12 : 1200 < M.length
     · as_aux_lemma =>
       have g1 : decide (1200 < (M.length : Int)) = true := decide_eq_true (by omega);have g1' : decide (1200 < M.length) = true := decide_eq_true h12;go_wp2;go_ret;exact ⟨true, rfl, K1.out.trans KM.out, fun e => by cases e⟩
     have g1 : decide (1200 < (M.length : Int)) = false := decide_eq_false (by omega);have g1' : decide (1200 < M.length) = false := decide_eq_false h12;have FIN2 := zb (fun h => FIN.out (by rw [zO]; exact HX.out) (show M.length <= 1200 from by omega) h);go_wp2;clear g1 g1';obtain ⟨wo2, hwo⟩ : ∃ wo2, wo2 = wr := ⟨_, rfl⟩;subst hwo;go_loopw [113] (fun iv wr => ∃ k : Nat, k <= M.length ∧ iv = .int .i64 k ∧ Hid (wo2 = wr) ∧ Hid (∀ (j : Nat) x, j < k -> M[j]? = some x -> x.size <= 100)) (fun iv _ => M.length - (intOf iv).toNat)
     case atStart => exact ⟨0, by omega, rfl, zb rfl, zb (fun j r hj => by omega)⟩
     case round =>
      obtain ⟨k, hk, rfl, hw, HI⟩ := hrel;have hw := hw.out;subst hw;by_cases hlt : k < M.length
      rotate_left
      · as_aux_lemma =>
        obtain rfl : k = M.length := by omega
        have g1 : decide ((M.length : Int) < (M.length : Int)) = false := decide_eq_false (by omega);have g1' : decide (M.length < M.length) = false := decide_eq_false (by omega);go_wp2;go_ret
        exact ⟨false, rfl, K1.out.trans KM.out, fun _ => FIN2.out fun x hx => by
         obtain ⟨j, hj⟩ := List.mem_iff_getElem?.1 hx;exact HI.out j x (List.getElem?_eq_some_iff.1 hj).1 hj⟩
      as_aux_lemma =>
      have g1 : decide ((k : Int) < (M.length : Int)) = true := decide_eq_true (by omega);have g1' : decide (k < M.length) = true := decide_eq_true hlt;obtain ⟨x, hx⟩ : ∃ x, M[k]? = some x := ⟨_, List.getElem?_eq_getElem hlt⟩;obtain ⟨_, _, e1, _, hcs⟩ := xW HM.out;cases e1;obtain ⟨g, rfl, _, c0⟩ := hcs k (.string x) (by unfold zC; rw [List.getElem?_map, hx]; rfl);have c0' : wo2.cell? ⟨g, k, none⟩ = some (.string x) := c0
      have NX := zb (show x.size <= 100 -> ∀ (j : Nat) y, j < k + 1 -> M[j]? = some y -> y.size <= 100 from fun z j y hj hjy => by
       rcases Nat.lt_or_ge j k with q | q
       · exact HI.out j y q hjy
       · obtain rfl : j = k := by omega
         rw [hx] at hjy; cases hjy;exact z)
      clear hcs hx c0 HI;by_cases h100 : 100 < x.size
      · have m3 : decide (100 < (x.size : Int)) = true := decide_eq_true (by omega)
        have m3' : decide (100 < x.size) = true := decide_eq_true h100;go_wp2;go_ret;exact ⟨true, rfl, K1.out.trans KM.out, fun e => by cases e⟩
      have m3 : decide (100 < (x.size : Int)) = false := decide_eq_false (by omega);have m3' : decide (100 < x.size) = false := decide_eq_false h100;have NX2 := zb (NX.out (by omega));go_wp2;go_roundw
      case rel => exact ⟨k + 1, by omega, by go_num, zb (by first | trivial | rfl), NX2⟩
      case measure => simp [intOf]; omega
end Go.Proofs.YthdfplafihmejaaGreat

namespace Go.Proofs.YthdfplafihmejaaGreat
open Go.ChangeShapes Go.WideShapes Go.ChangeAt Go.RowKit
theorem zmc {H : Type} (d : DataW H) : 1 <= Rows.uptoBulk d := by
 cases d with
 | lit l => cases l <;> simp [Rows.uptoBulk]
 | nil => simp [Rows.uptoBulk]
 | ptr d => simp [Rows.uptoBulk]
 | slice elems spare => simp [Rows.uptoBulk]
 | agg parts => simp [Rows.uptoBulk]
 | iface t d => simp [Rows.uptoBulk]
 | map entries => simp [Rows.uptoBulk]
 | held h => simp [Rows.uptoBulk]
theorem zfV {H : Type} {d : DataW H} {l : List (DataW H)} (h : d ∈ l) : Rows.uptoBulk d <= Rows.uptoBulkAll l := by
 induction l with
 | nil => cases h
 | cons x r ih =>
  simp only [Rows.uptoBulkAll];cases List.mem_cons.1 h with
  | inl e => subst e; omega
  | inr e => have := ih e; omega
theorem zmd {H : Type} (l : List (DataW H)) : l.length <= Rows.uptoBulkAll l := by
 induction l with
 | nil => simp [Rows.uptoBulkAll]
 | cons x r ih => have := zmc x; simp only [Rows.uptoBulkAll, List.length_cons]; omega
section
variable {W : World} {H : Type} {enc : TypeId × Value -> H} {P : Program}
theorem Xa {t e : TypeId} {fuel : Nat} {a : Option Addr} {n c : Nat} {x : DataW H × List MemPlace} (ht : P.underlying t = some (.slice e)) (h : DataW.trod enc P W 0 (fun _ => true) true fuel t [.slice a n c] = some x) : n <= Rows.uptoBulk x.1 := by
 rcases Deep.open_slice ht h with ⟨hcs, _⟩ | ⟨_, len, cap, m, k, D, Pl, hcs, _, _, _, _, hd, _⟩
 · simp at hcs; omega
 · simp at hcs
   obtain ⟨_, rfl, _⟩ := hcs;rw [hd];simp only [Rows.uptoBulk];have := zmd ((List.range n).map D);rw [List.length_map, List.length_range] at this;omega
theorem ze9 {t e : TypeId} {fuel : Nat} {g o n c : Nat} {x : DataW H × List MemPlace} (ht : P.underlying t = some (.slice e)) (h : DataW.trod enc P W 0 (fun _ => true) true fuel t [.slice (some ⟨g, o, none⟩) n c] = some x) {j : Nat} (hj : j < n) :
  ∃ k cs y, DataW.trod enc P W 0 (fun _ => true) true k e cs = some y ∧ Rows.uptoBulk y.1 <= Rows.uptoBulk x.1 ∧ ∀ i, i < P.cellsOf e -> W.cell? ⟨g, o + j * P.cellsOf e + i, none⟩ = cs[i]? := by
 rcases Deep.open_slice ht h with ⟨hcs, _⟩ | ⟨ad, len, cap, m, k, D, Pl, hcs, _, hl, _, hm, hd, hel⟩
 · simp at hcs
 · simp at hcs
   obtain ⟨rfl, rfl, rfl⟩ := hcs;simp at hm;obtain ⟨cs, h1, h2⟩ := hel j (by omega);refine ⟨k, cs, _, h2, ?_, fun i hi => ?_⟩
   · rw [hd]
     simp only [Rows.uptoBulk];have := zfV (d := D j) (l := (List.range n).map D) (List.mem_map.2 ⟨j, List.mem_range.2 hj, rfl⟩);omega
   · have g := (World.cells?_some h1).2.2 i hi
     simp only [yn] at g;exact g
theorem zcL {t : TypeId} {fs : Array Field} {fuel : Nat} {cs : List Value} {x : DataW H × List MemPlace} (ht : P.underlying t = some (.struct fs)) (h : DataW.trod enc P W 0 (fun _ => true) true fuel t cs = some x) {i : Nat} {f : Field} (hf : fs[i]? = some f) :
  ∃ k y, DataW.trod enc P W 0 (fun _ => true) true k f.type ((cs.drop f.offset).take (P.cellsOf f.type)) = some y ∧ Rows.uptoBulk y.1 <= Rows.uptoBulk x.1 ∧ y.1 ∈ (match x.1 with | .agg l => l | _ => []) := by
 obtain ⟨xs, n, _, rfl, hl, hlen, hp⟩ := DataW.trod_struct ht h
 have hi : i < xs.length := by
  rw [hlen];exact (Array.getElem?_eq_some_iff.1 hf).1
 obtain ⟨y, hy⟩ : ∃ y, xs[i]? = some y := ⟨_, List.getElem?_eq_getElem hi⟩;have hm : y.1 ∈ xs.map (·.1) := List.mem_map.2 ⟨y, List.mem_of_getElem? hy, rfl⟩;refine ⟨n, y, ?_, ?_, hm⟩
 · rw [hp i f hf]; exact hy
 · simp only [Rows.uptoBulk]
   have := zfV hm;omega
end
theorem drop_one {l : List Value} {i : Nat} {v : Value} (h : l[i]? = some v) : (l.drop i).take 1 = [v] := by
 have hl := (List.getElem?_eq_some_iff.1 h).1;rw [List.drop_eq_getElem_cons hl, (List.getElem?_eq_some_iff.1 h).2]; rfl
section
variable {W : World} {H : Type} {enc : TypeId × Value -> H}
theorem zkH {a : Option Addr} {n c : Nat} {d : DataW H} {ps : List MemPlace} {G : Nat -> Prop} {P : List (zn × Value)} (h : DataW.Trod enc Tryz.prog W 0 (fun _ => true) true 23 (.slice a n c) d ps) (hP : yb W (.slice a n c) G P) : P.length <= Rows.uptoBulk d ∧ ∀ x ∈ zj P, x.fr.length <= Rows.uptoBulk d := by
 obtain ⟨fuel, hf⟩ := h;have hf' : DataW.trod enc Tryz.prog W 0 (fun _ => true) true fuel 23 [.slice a n c] = some (d, ps) := hf;obtain ⟨la, cap, e, _, hc⟩ := hP;cases e;refine ⟨Xa Tryz.underlying23 hf', fun x hx => ?_⟩;unfold zj at hx;obtain ⟨p, hp, rfl⟩ := List.mem_map.1 hx;obtain ⟨j, hj⟩ := List.mem_iff_getElem?.1 hp;obtain ⟨g, o, sa, sc, rfl, _, _, _, _, _, c3, _⟩ := hc j p hj;obtain ⟨k, cs, y, h1, h2, h3⟩ := ze9 Tryz.underlying23 hf' (List.getElem?_eq_some_iff.1 hj).1;rw [Tryz.cellsCert] at h3;have e3 : cs[3]? = some (.slice sa p.1.fr.length sc) := by rw [<- h3 3 (by decide)]; exact c3
 obtain ⟨k2, z, z1, z2, _⟩ := zcL (i := 3) Tryz.underlying64 h1 rfl;have z1 : DataW.trod enc Tryz.prog W 0 (fun _ => true) true k2 26 ((cs.drop 3).take (Tryz.prog.cellsOf 26)) = some z := z1;rw [Tryz.cellsSet, drop_one e3] at z1;have h4 := Xa Tryz.underlying26 z1;have h5 : Rows.uptoBulk y.1 <= Rows.uptoBulk d := h2;omega
theorem zl1 {a : Option Addr} {n c : Nat} {d : DataW H} {ps : List MemPlace} {G : Nat -> Prop} {L : List zW} (h : DataW.Trod enc Tryz.prog W 0 (fun _ => true) true 24 (.slice a n c) d ps) (hL : Zu W (.slice a n c) G L) : L.length <= Rows.uptoBulk d ∧ ∀ x ∈ L, x.2.length <= Rows.uptoBulk d := by
 obtain ⟨fuel, hf⟩ := h;have hf' : DataW.trod enc Tryz.prog W 0 (fun _ => true) true fuel 24 [.slice a n c] = some (d, ps) := hf;obtain ⟨la, cap, e, _, _⟩ := hL.shape;cases e;refine ⟨Xa Tryz.underlying24 hf', fun x hx => ?_⟩;obtain ⟨j, hj⟩ := List.mem_iff_getElem?.1 hx;obtain ⟨g, o, sa, sc, rfl, _, _, c1, _⟩ := hL.get hj;obtain ⟨k, cs, y, h1, h2, h3⟩ := ze9 Tryz.underlying24 hf' (List.getElem?_eq_some_iff.1 hj).1;rw [Tryz.cellsEntry] at h3;have e1 : cs[1]? = some (.slice sa x.2.length sc) := by rw [<- h3 1 (by decide)]; exact c1
 obtain ⟨k2, z, z1, z2, _⟩ := zcL (i := 1) Tryz.underlying56 h1 rfl;have z1 : DataW.trod enc Tryz.prog W 0 (fun _ => true) true k2 26 ((cs.drop 1).take (Tryz.prog.cellsOf 26)) = some z := z1;rw [Tryz.cellsSet, drop_one e1] at z1;have h4 := Xa Tryz.underlying26 z1;have h5 : Rows.uptoBulk y.1 <= Rows.uptoBulk d := h2;omega
theorem zcw {t e : TypeId} {fuel : Nat} {v : Value} {x : DataW H × List MemPlace} (ht : Tryz.prog.underlying t = some (.slice e)) (h : DataW.trod enc Tryz.prog W 0 (fun _ => true) true fuel t [v] = some x) : ∃ a n c, v = .slice a n c := by
 rcases Deep.open_slice ht h with ⟨hcs, _⟩ | ⟨_, _, _, _, _, _, _, hcs, _⟩
 · simp at hcs; exact ⟨_, _, _, hcs⟩
 · simp at hcs; exact ⟨_, _, _, hcs⟩
structure zh9 (W : World) (v : Value) (ra : Option Addr) (R : List zA) (rc : Nat) (pv lv cv : Value) (P : List (zn × Value)) (L : List zW) (op : Int) (c : List ByteArray) (b : Int) : Prop where
 val : v = .agg #[.slice ra R.length rc, pv, lv, .int .i64 op, cv, .int .i64 b]
 rules : zh6 W (.slice ra R.length rc) R
 fit : zh5 R
 certs : zh8 W pv P
 cfit : zcB P
 ents : Zu W lv (· < W.heap.size) L
 set : Yo W cv (· < W.heap.size) c
 up : zot R (zj P) L c
theorem Tryz.cellsAsk : Tryz.prog.cellsOf 28 = 6 := by kernel_rfl
theorem Tryz.cellsRules : Tryz.prog.cellsOf 22 = 1 := by kernel_rfl
theorem Tryz.cellsCerts : Tryz.prog.cellsOf 23 = 1 := by kernel_rfl
theorem Tryz.cellsEntries : Tryz.prog.cellsOf 24 = 1 := by kernel_rfl
set_option maxRecDepth 100000 in
theorem znZ {cs : Array Value} {d : DataW H} {ps : List MemPlace} (h : DataW.Trod enc Tryz.prog W 0 (fun _ => true) true 28 (.agg cs) d ps) (hb : Rows.uptoBulk d <= 1048576) (hw : ∀ x ∈ d.weights Tryz.prog 28, x <= reachBytes) :
  ∃ ra R rc pv lv cv P L op c b, zh9 W (.agg cs) ra R rc pv lv cv P L op c b := by
 obtain ⟨fuel, hf⟩ := h;have hf' : DataW.trod enc Tryz.prog W 0 (fun _ => true) true fuel 28 cs.toList = some (d, ps) := hf;obtain ⟨xs, n, _, he, hl, hlen, hp⟩ := DataW.trod_struct Tryz.underlying28 hf';rw [Tryz.cellsAsk] at hl
 have hcs : ∃ c0 c1 c2 c3 c4 c5, cs = #[c0, c1, c2, c3, c4, c5] := by
  match cs, hl with
  | ⟨[c0, c1, c2, c3, c4, c5]⟩, _ => exact ⟨c0, c1, c2, c3, c4, c5, rfl⟩
 obtain ⟨c0, c1, c2, c3, c4, c5, rfl⟩ := hcs
 match xs, hlen with
 | [y0, y1, y2, y3, y4, y5], _ =>
 have ed : d = .agg [y0.1, y1.1, y2.1, y3.1, y4.1, y5.1] := congrArg Prod.fst he;subst ed;have t0 : DataW.trod enc Tryz.prog W 0 (fun _ => true) true n 22 [c0] = some y0 := hp 0 _ rfl;have t1 : DataW.trod enc Tryz.prog W 0 (fun _ => true) true n 23 [c1] = some y1 := hp 1 _ rfl;have t2 : DataW.trod enc Tryz.prog W 0 (fun _ => true) true n 24 [c2] = some y2 := hp 2 _ rfl;have t3 : DataW.trod enc Tryz.prog W 0 (fun _ => true) true n 3 [c3] = some y3 := hp 3 _ rfl;have t4 : DataW.trod enc Tryz.prog W 0 (fun _ => true) true n 26 [c4] = some y4 := hp 4 _ rfl;have t5 : DataW.trod enc Tryz.prog W 0 (fun _ => true) true n 3 [c5] = some y5 := hp 5 _ rfl;obtain ⟨a0, n0, k0, rfl⟩ := zcw Tryz.underlying22 t0;obtain ⟨a1, n1, k1, rfl⟩ := zcw Tryz.underlying23 t1;obtain ⟨a2, n2, k2, rfl⟩ := zcw Tryz.underlying24 t2;obtain ⟨a4, n4, k4, rfl⟩ := zcw Tryz.underlying26 t4;obtain ⟨op, e3, _, _⟩ := DataW.trod_int Tryz.underlying3 t3;obtain ⟨b, e5, _, _⟩ := DataW.trod_int Tryz.underlying3 t5;simp at e3 e5;subst e3 e5;have T0 : DataW.Trod enc Tryz.prog W 0 (fun _ => true) true 22 (.slice a0 n0 k0) y0.1 y0.2 := ⟨n, t0⟩;have T1 : DataW.Trod enc Tryz.prog W 0 (fun _ => true) true 23 (.slice a1 n1 k1) y1.1 y1.2 := ⟨n, t1⟩;have T2 : DataW.Trod enc Tryz.prog W 0 (fun _ => true) true 24 (.slice a2 n2 k2) y2.1 y2.2 := ⟨n, t2⟩;have T4 : DataW.Trod enc Tryz.prog W 0 (fun _ => true) true 26 (.slice a4 n4 k4) y4.1 y4.2 := ⟨n, t4⟩;simp only [DataW.weights, Tryz.underlying28, List.map_cons, List.map_nil, DataW.weightsEach, List.mem_append] at hw;obtain ⟨R, hR, hRf⟩ := zgD T0;obtain ⟨P, hP, hPf⟩ := zhb T1;obtain ⟨L, hL⟩ := zi5 T2;obtain ⟨c, hc⟩ := zjE T4;obtain ⟨la, cap, e, _⟩ := hR.at_;cases e;simp only [Rows.uptoBulk, Rows.uptoBulkAll] at hb;have b0 := Xa Tryz.underlying22 t0;obtain ⟨b1, f1⟩ := zkH T1 hP.at_;obtain ⟨b2, f2⟩ := zl1 T2 hL;have b4 := Xa Tryz.underlying26 t4;have e4 : n4 = c.length := by obtain ⟨_, _, e, _⟩ := hc.at_; cases e; rfl
 refine ⟨a0, R, k0, _, _, _, P, L, op, c, b, rfl, hR, hRf (fun x hx => hw x (.inl hx)), hP, hPf (fun x hx => hw x (.inr (.inl hx))), hL, hc, ⟨by omega, by rw [zO]; omega, by omega, by omega, fun k hk => by have := f1 k hk; omega, fun x hx => by have := f2 x hx; omega⟩⟩
end
open Go.Maps
section
variable {W : World} {H : Type} {enc : TypeId × Value -> H}
instance : Inhabited zS := ⟨⟨[], []⟩⟩
theorem Tryz.cellsWhy : Tryz.prog.cellsOf 39 = 3 := by kernel_rfl
theorem Tryz.cellsProof17 : Tryz.prog.cellsOf 83 = 2 := by kernel_rfl
def zmw (W : World) (v : Value) (y : zdq) : Prop := ∃ tv pv, v = .agg #[.int .i64 y.entry, tv, pv] ∧ zbC W tv pv (· < W.heap.size) y ∧ ∀ p ∈ y.proofs, YI p
end
end Go.Proofs.YthdfplafihmejaaGreat
