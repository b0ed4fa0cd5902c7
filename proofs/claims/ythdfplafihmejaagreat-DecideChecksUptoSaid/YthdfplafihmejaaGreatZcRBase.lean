/-
  Package word: within, Find, Swap (where they are asked right). Package reach: Counts, machine. Package reach: machine. Layer 11: single steps (plain).
-/
import Derived.Test.YthdfplafihmejaaGreatZcMMach1
import Derived.Test.YthdfplafihmejaaGreatZcRPlain
import Derived.Test.YthdfplafihmejaaGreatZcKit2
import Derived.WalkLawsBesides
import Derived.WalkSpells
import Derived.Test.YthdfplafihmejaaGreatZcCCert1
import Derived.Laws.NewBlocks
import Derived.Laws.OwnMore
import Derived.Laws.MakeOwn
namespace Go.Proofs.YthdfplafihmejaaGreat
open Go.RowKit
theorem zie (w : World) (s : ByteArray) (a n : Nat) (hs : s.size <= maxLen) (h : a + n <= zt s.data.toList) :
  Calls Tryz.prog 148 #[.string s, .int .i64 a, .int .i64 n] w fun e w' => e = .returned (.bool true) ∧ w = w' := by
 have LEN := zb (fun w => Zy w s hs);have hl : zt s.data.toList <= 4611686018427387904 := by unfold maxLen at hs; unfold zt; rw [zv]; omega
 generalize zt s.data.toList = N at *;have g1 : decide ((0 : Int) <= (a : Int)) = true := by rw [decide_eq_true_eq]; omega
 have g2 : decide ((0 : Int) <= (n : Int)) = true := by rw [decide_eq_true_eq]; omega
 have g3 : decide (a <= N) = true := by rw [decide_eq_true_eq]; omega
 have g4 : decide ((n : Int) <= (N : Int) - (a : Int)) = true := by rw [decide_eq_true_eq]; omega
 clear hs;go_enter Tryz.func148, Tryz.ntmps148;go_wp2_with fail;refine (LEN.out _).mono ?_;rintro e w' ⟨rfl, rfl⟩;go_wp2_with fail;refine (LEN.out _).mono ?_;rintro e w' ⟨rfl, rfl⟩;go_wp2;go_ret;exact ⟨rfl, rfl⟩
theorem znS {a b : ByteArray} (h : a.data.toList = b.data.toList) : a = b := by
 cases a; cases b; simp at h; rw [h]
theorem zmN (s v : ByteArray) (a n : Nat) : s.extract 0 (2 * a) ++ v ++ s.extract (2 * (a + n)) s.size = ⟨(ZJ s.data.toList a n v.data.toList).toArray⟩ := by
 apply znS;unfold ZJ;simp only [ByteArray.data_append, ByteArray.data_extract, Array.toList_append, Array.toList_extract, List.extract_eq_take_drop, List.drop_zero, Nat.sub_zero];rw [List.take_of_length_le (l := s.data.toList.drop (2 * (a + n))) (by rw [List.length_drop, zv]; omega)]
set_option maxRecDepth 100000 in
theorem zgu (w : World) (s v : ByteArray) (a n : Nat) (hs : s.size <= 1000000) (hv : v.size <= 1000000) (hs2 : s.size % 2 = 0) (hv2 : v.size % 2 = 0) (h : a + n <= zt s.data.toList) (h8 : zt s.data.toList - n + zt v.data.toList <= 8) :
  Calls Tryz.prog 130 #[.string s, .int .i64 a, .int .i64 n, .string v] w fun e w' => e = .returned (.tuple #[.string ⟨(ZJ s.data.toList a n v.data.toList).toArray⟩, .int .i64 0]) ∧ Zv w w' := by
 have O1 := zb (zeg w s (by unfold maxLen; omega) hs2);have O2 := zb (zeg w v (by unfold maxLen; omega) hv2);have WI := zb (zie w s a n (by unfold maxLen; omega) h);have L1 := zb (Zy w s (by unfold maxLen; omega));have L2 := zb (Zy w v (by unfold maxLen; omega));have hN : s.size = 2 * zt s.data.toList := by unfold zt; rw [zv]; omega
 have hM : v.size = 2 * zt v.data.toList := by unfold zt; rw [zv]; omega
 have EQ := zb (zmN s v a n);generalize zt s.data.toList = N at *;generalize zt v.data.toList = M at *;have g1 : decide ((8 : Int) < (N : Int) - (n : Int) + (M : Int)) = false := by rw [decide_eq_false_iff_not]; omega
 go_enter Tryz.func130, Tryz.ntmps130;go_wp2_with fail;refine (O1.out).mono ?_;rintro e w' ⟨rfl, rfl⟩;go_wp2_with fail;refine (O2.out).mono ?_;rintro e w' ⟨rfl, rfl⟩;go_wp2_with fail;refine (WI.out).mono ?_;rintro e w' ⟨rfl, rfl⟩;go_wp2_with fail;refine (L1.out).mono ?_;rintro e w' ⟨rfl, rfl⟩;go_wp2_with fail;refine (L2.out).mono ?_;rintro e w' ⟨rfl, rfl⟩;go_wp2;have m1 : IntKind.i64.wrap (2 * (a : Int)) = 2 * (a : Int) := by rw [IntKind.wrap_i64]; omega
 have m2 : IntKind.i64.wrap ((a : Int) + (n : Int)) = (a : Int) + (n : Int) := by rw [IntKind.wrap_i64]; omega
 have m3 : IntKind.i64.wrap (2 * ((a : Int) + (n : Int))) = 2 * ((a : Int) + (n : Int)) := by rw [IntKind.wrap_i64]; omega
 have t1 : (2 * (a : Int)).toNat = 2 * a := by omega
 have t2 : (2 * ((a : Int) + (n : Int))).toNat = 2 * (a + n) := by omega
 have b1 : 0 <= 2 * (a : Int) := by omega
 have b2 : 2 * (a : Int) <= (s.size : Int) := by omega
 have b3 : 0 <= 2 * ((a : Int) + (n : Int)) := by omega
 have b4 : 2 * ((a : Int) + (n : Int)) <= (s.size : Int) := by omega
 have z1 : (s.extract 0 (2 * a)).size <= 1000000 := by rw [ByteArray.size_extract]; omega
 have z2 : (s.extract (2 * (a + n)) s.size).size <= 1000000 := by rw [ByteArray.size_extract]; omega
 have z3 : (s.extract 0 (2 * a) ++ v).size <= 2000000 := by rw [ByteArray.size_append]; omega
 have y1 : (s.extract 0 (2 * a)).size + v.size <= 9223372036854775807 := by omega
 have y2 : (s.extract 0 (2 * a) ++ v).size + (s.extract (2 * (a + n)) s.size).size <= 9223372036854775807 := by omega
 have y3 : min (2 * a) s.size + v.size <= 9223372036854775807 := by omega
 have y4 : min (2 * a) s.size + v.size + (s.size - 2 * (a + n)) <= 9223372036854775807 := by omega
 clear hN hM h h8 g1 hs hv hs2 hv2;go_quiet (fail);rename_i nq;go_wp2;go_ret2;exact ⟨congrArg (fun x => Ending.returned (.tuple #[.string x, .int .i64 0])) EQ.out, nq, rfl⟩
def zbs (w v : Wd) (i : Nat) : Nat -> Int
 | 0 => -1
 | f + 1 => if (w.drop (2 * i)).take v.length = v then i else zbs w v (i + 1) f
def YN (w v : Wd) (i : Nat) : Int := zbs w v i (zt w + 1 - zt v - i)
theorem zhU {w v : Wd} {i : Nat} (h : zt w < i + zt v) : YN w v i = -1 := by
 unfold YN; rw [show zt w + 1 - zt v - i = 0 by omega]; rfl
theorem zfK {w v : Wd} {i : Nat} (h : i + zt v <= zt w) (e : (w.drop (2 * i)).take v.length = v) : YN w v i = i := by
 unfold YN; rw [show zt w + 1 - zt v - i = (zt w - zt v - i) + 1 by omega, zbs, if_pos e]
theorem zd7 {w v : Wd} {i : Nat} (h : i + zt v <= zt w) (e : ¬ (w.drop (2 * i)).take v.length = v) : YN w v i = YN w v (i + 1) := by
 unfold YN; rw [show zt w + 1 - zt v - i = (zt w + 1 - zt v - (i + 1)) + 1 by omega, zbs, if_neg e]
theorem zdc (w v : Wd) : ∀ (f i : Nat), zbs w v i f = -1 ∨ (i : Int) <= zbs w v i f
 | 0, i => .inl rfl
 | f + 1, i => by
  unfold zbs;split
  ·exact .inr (Int.le_refl _)
  ·rcases zdc w v f (i + 1) with h | h
   ·exact .inl h
   ·exact .inr (by omega)
theorem zks {w v : Wd} {i : Nat} : YN w v i = i ↔ i + zt v <= zt w ∧ (w.drop (2 * i)).take v.length = v := by
 constructor
 ·intro h
  by_cases h1 : i + zt v <= zt w
  ·refine ⟨h1, ?_⟩
   by_cases h2 : (w.drop (2 * i)).take v.length = v
   ·exact h2
   ·rw [zd7 h1 h2] at h
    have := zdc w v (zt w + 1 - zt v - (i + 1)) (i + 1);unfold YN at h;omega
  ·rw [zhU (by omega)] at h
   omega
 ·rintro ⟨h1, h2⟩
  exact zfK h1 h2
theorem zl8 (s v : ByteArray) (i : Nat) : ((s.extract (2 * i) (2 * i + v.size)).toList == v.toList) = decide ((s.data.toList.drop (2 * i)).take v.data.toList.length = v.data.toList) := by
 rw [znP, Bool.eq_iff_iff, beq_iff_eq, decide_eq_true_eq]
open Go.Maps
abbrev zA := ByteArray × ByteArray
def Zo (r : zA) : Rul := (r.1.data.toList, r.2.data.toList)
def zfe (r : zA) : Value := .agg #[.string r.1, .string r.2]
def zM (w : World) (v : Value) (G : Nat -> Prop) (R : List zA) : Prop :=
 ∃ la cap, v = .slice la R.length cap ∧ R.length <= maxLen ∧ ∀ (j : Nat) r, R[j]? = some r -> ∃ lb lo, la = some ⟨lb, lo, none⟩ ∧ G lb ∧ w.cell? ⟨lb, lo + j * 2, none⟩ = some (.string r.1) ∧ w.cell? ⟨lb, lo + j * 2 + 1, none⟩ = some (.string r.2) ∧ r.1.size <= maxLen ∧ r.2.size <= maxLen
theorem zM.chg {S : Nat -> Prop} {w w' : World} {v : Value} {G : Nat -> Prop} {R : List zA} (h : zM w v G R) (hc : Chg S w w') (hs : ∀ k, G k -> ¬ S k) : zM w' v G R := by
 obtain ⟨la, cap, h1, h2, h3⟩ := h;exact ⟨la, cap, h1, h2, fun j r hj => by obtain ⟨lb, lo, q1, q2, q3, q4, q5⟩ := h3 j r hj; exact ⟨lb, lo, q1, q2, zi hc (hs lb q2) q3, zi hc (hs lb q2) q4, q5⟩⟩
set_option maxRecDepth 100000 in
theorem zb0 (w : World) (r : zA) (h1 : r.1.size <= maxLen) (h2 : r.2.size <= maxLen) :
  Calls Tryz.prog 128 #[zfe r] w fun e w' => e = .returned (.bool (Zn (Zo r))) ∧ Chg (fun _ => False) w w' := by
 obtain ⟨a, b⟩ := r;simp only at h1 h2;have MA := zb (fun w => zho w a h1);have MB := zb (fun w => zho w b h2);have LA := zb (fun w => Zy w a h1);have LB := zb (fun w => Zy w b h2);have CB := zb (show Zn (Zo (a, b)) = (Zm a.data.toList && Zm b.data.toList && decide (zt b.data.toList <= zt a.data.toList)) from rfl);clear h1 h2;unfold zfe;simp only;generalize zt a.data.toList = N at *;generalize zt b.data.toList = M at *;cases ha : Zm a.data.toList with
 | false =>
  rw [ha] at MA CB;clear ha;go_enter Tryz.func128, Tryz.ntmps128;go_wp2_with fail;go_quiet ((go_at_call 49; exact yj (fun n => MA.out _)));rename_i nq;go_wp2;go_ret;exact ⟨by rw [CB.out]; rfl, (zh _ w _).drewN nq⟩
 | true =>
  rw [ha] at MA CB;clear ha;cases hb : Zm b.data.toList with
  | false =>
   rw [hb] at MB CB;clear hb;go_enter Tryz.func128, Tryz.ntmps128;go_wp2_with fail;go_quiet ((go_at_call 49; (first | with_reducible exact yj (fun n => MA.out _) | with_reducible exact yj (fun n => MB.out _))));rename_i nq;go_wp2;go_ret;exact ⟨by rw [CB.out]; rfl, (zh _ w _).drewN nq⟩
  | true =>
   rw [hb] at MB CB;clear hb;cases hl : decide (M <= N) with
   | false =>
    rw [hl] at CB;go_enter Tryz.func128, Tryz.ntmps128;go_wp2_with fail;go_quiet ((first | (go_at_call 49; (first | with_reducible exact yj (fun n => MA.out _) | with_reducible exact yj (fun n => MB.out _))) | (go_at_call 80; (first | with_reducible exact Yf (fun n => LA.out _) | with_reducible exact Yf (fun n => LB.out _)))));rename_i nq;go_wp2;go_ret;exact ⟨by rw [CB.out]; rfl, (zh _ w _).drewN nq⟩
   | true =>
    rw [hl] at CB;go_enter Tryz.func128, Tryz.ntmps128;go_wp2_with fail;go_quiet ((first | (go_at_call 49; (first | with_reducible exact yj (fun n => MA.out _) | with_reducible exact yj (fun n => MB.out _))) | (go_at_call 80; (first | with_reducible exact Yf (fun n => LA.out _) | with_reducible exact Yf (fun n => LB.out _)))));rename_i nq;go_wp2;go_ret;exact ⟨by rw [CB.out]; rfl, (zh _ w _).drewN nq⟩
def zag : ByteArray := ⟨#[]⟩
def xL (R : List zA) : List ByteArray := R.map fun r => if Zn (Zo r) then r.1 else zag
theorem zfH (R : List zA) : Zp (xL R) = yL (R.map Zo) := by
 unfold Zp xL yL;rw [List.map_map, List.map_map];apply List.map_congr_left;intro r _;simp only [Function.comp];split <;> simp [Zo, zag, *]
theorem xe (R : List zA) : (xL R).length = R.length := by simp [xL]
theorem zez (z : Value) (n : Nat) : madeCells #[z] n = (zmn n z).toArray := by
 unfold madeCells zmn;apply Array.ext
 ·simp
 ·intro i h1 h2; simp [Nat.mod_one]
theorem Tryz.makeWords (w : World) (n : Nat) (hn : n <= 1000) : (Instr.makeSlice 25 (.int .i64 n) (.int .i64 n)).run Tryz.prog w = .ok (.slice (some ⟨w.heap.size, 0, none⟩) n n) (w.alloc (.cells (zmn n (.string zag)).toArray 57)) := by
 obtain ⟨i, hi, hz0, hz1, hz2⟩ := info_parts (show (Tryz.prog.info? 57).map (fun i => (i.zero, i.size, i.bytes)) = some (some (.string zag), 1, 16) by kernel_rfl);have := run_make (P := Tryz.prog) w 25 57 i _ Tryz.underlying25 hi hz0 .i64 .i64 n n (by omega) (by omega) (by rw [hz2]; omega) (by omega);rw [this, hz1];simp only [Int.toNat_natCast, Value.cells, Nat.mul_one];rw [zez]
def YC (R : List zA) (k : Nat) : List ByteArray := (xL R).take k ++ List.replicate (R.length - k) zag
theorem zg3 (R : List zA) : YC R R.length = xL R := by
 unfold YC; rw [List.take_of_length_le (by rw [xe]; omega), Nat.sub_self]; simp
theorem zcf (R : List zA) (k : Nat) (hk : k < R.length) : YC R (k + 1) = (YC R k).set k (if Zn (Zo R[k]) then R[k].1 else zag) := by
 have hl : ((xL R).take k).length = k := by rw [List.length_take, xe]; omega
 have hg : (xL R)[k]? = some (if Zn (Zo R[k]) then R[k].1 else zag) := by
  unfold xL; rw [List.getElem?_map, List.getElem?_eq_getElem hk]; rfl
 unfold YC;rw [List.set_append_right _ _ (by omega), hl, Nat.sub_self, show R.length - k = (R.length - (k + 1)) + 1 by omega, List.replicate_succ, List.set_cons_zero, List.take_add_one, hg, List.append_assoc]; rfl
theorem zfI (R : List zA) (k : Nat) (hk : k < R.length) (h : Zn (Zo R[k]) = false) : YC R (k + 1) = YC R k := by
 rw [zcf R k hk, h];have hl : ((xL R).take k).length = k := by rw [List.length_take, xe]; omega
 unfold YC;rw [List.set_append_right _ _ (by omega), hl, Nat.sub_self, show R.length - k = (R.length - (k + 1)) + 1 by omega, List.replicate_succ, List.set_cons_zero]; rfl
theorem zii (l : List ByteArray) (k : Nat) (x : ByteArray) : (zC l).set k (.string x) = zC (l.set k x) := by unfold zC; rw [List.map_set]
theorem yW.base {w : World} {base base' L : Nat} {mv : Value} {f : Nat -> Option Nat} (h : yW w base L mv f) (hb : base' <= base) : yW w base' L mv f := by
 rcases h with h | ⟨bm, n, D, rfl, h1, r⟩
 ·exact .inl h
 ·exact .inr ⟨bm, n, D, rfl, by omega, r⟩
theorem zka {w : World} {base base' : Nat} {B : MB} {cs : List (Value × Value)} {ps : List (List Nat)} {wh : List Nat -> List Nat} (h : zX w base B cs ps wh) (hb : base' <= base) : zX w base' B cs ps wh :=
 ⟨h.hb, yA h.hg hb, h.len, fun k p c hp hc => (h.em k p c hp hc).base hb, fun k p c hp hc => yA (h.ew k p c hp hc) hb, h.ap, h.ag, h.bg, Nat.le_trans hb h.bb⟩
set_option maxHeartbeats 1600000 in
set_option maxRecDepth 100000 in
theorem zgW (w : World) (v : Value) (R : List zA) (hv : zM w v (· < w.heap.size) R) (hR : R.length <= 400) (hs : ∀ r ∈ R, r.1.size <= 400) :
  Calls Tryz.prog 157 #[v] w fun e w' => ∃ B cs, e = .returned (.pointer (some ⟨B.b, 0, none⟩)) ∧ zX w' w.heap.size B cs (Ze (yL (R.map Zo)) (yL (R.map Zo)).length) (Za (yL (R.map Zo)) (yL (R.map Zo)).length) ∧ Chg (fun _ => False) w w' := by
 obtain ⟨la, cap, rfl, _, hl3⟩ := hv;have HL3 := zb hl3;have HS := zb hs;clear hl3 hs;have hmk := Tryz.makeWords w R.length (by omega)
 have O1 := zb (show (w.alloc (.cells (zmn R.length (.string zag)).toArray 57)).ownsRow w.heap.size 57 1 (.slice (some ⟨w.heap.size, 0, none⟩) R.length R.length) R.length (zC (YC R 0)) by
  have := World.ownsRow_lit (base := w.heap.size) (e := 57) (size := 1) w (zmn R.length (.string zag)).toArray R.length (Nat.le_refl _) (by unfold maxLen; omega) (by simp [zgI])
  have e : (zmn R.length (.string zag)).toArray.toList = zC (YC R 0) := by
   unfold YC zC zmn; simp
  rw [e] at this;exact this)
 have FL := zb (show ∀ k, k < R.length -> ∃ a b lb lo, R[k]? = some (a, b) ∧ la = some ⟨lb, lo, none⟩ ∧ lb < w.heap.size ∧ w.cell? ⟨lb, lo + k * 2, none⟩ = some (.string a) ∧ w.cell? ⟨lb, lo + k * 2 + 1, none⟩ = some (.string b) ∧ a.size <= maxLen ∧ b.size <= maxLen from fun k hk => by
  obtain ⟨lb, lo, q⟩ := HL3.out k _ (List.getElem?_eq_getElem hk);exact ⟨_, _, lb, lo, List.getElem?_eq_getElem hk, q⟩)
 clear HL3;go_enter Tryz.func157, Tryz.ntmps157;go_wp2;clear hmk;go_loopw [11] (fun iv wr => ∃ k : Nat, k <= R.length ∧ iv = .int .i64 k ∧ Hid (Chg (fun _ => False) w wr ∧ wr.ownsRow w.heap.size 57 1 (.slice (some ⟨w.heap.size, 0, none⟩) R.length R.length) R.length (zC (YC R k)))) (fun iv _ => R.length - (intOf iv).toNat)
 case atStart => exact ⟨0, by omega, rfl, zb ⟨zh _ _ _, O1.out⟩⟩
 case round =>
  obtain ⟨k, hk, rfl, HR⟩ := hrel;by_cases hlt : k < R.length
  ·obtain ⟨hc, ho⟩ := HR.out
   obtain ⟨a, b, lb, lo, hg, rfl, hlb, ca, cb, ha, hb⟩ := FL.out k hlt;have c0 := zi hc (fun e => e) ca;have c1 := zi hc (fun e => e) cb;have CO := zb (zb0 (wr.alloc (.cells #[.string a, .string b] 66)) (a, b) ha hb);have hgk : R[k] = (a, b) := by rw [List.getElem?_eq_getElem hlt] at hg; exact Option.some.inj hg
   have HC := zb (hc.alloc (.cells #[.string a, .string b] 66));have HO := zb (ho.alloc (.cells #[.string a, .string b] 66));have SU := zb (zcf R k hlt);have SA := zb (zfI R k hlt);rw [hgk] at SU SA;have hwr : w.heap.size <= wr.heap.size := hc.size;have e0 : (wr.alloc (.cells #[.string a, .string b] 66)).heap[wr.heap.size]? = some (.cells #[.string a, .string b] 66 (0, 0)) := zf _ _;have E0 := zb e0;clear HR hc ho hg hgk ca cb ha hb e0;unfold zfe at CO;simp only at CO;cases hcb : Zn (Zo (a, b)) with
   | false =>
    rw [hcb] at CO;have SA2 := zb (SA.out hcb);clear hcb SU SA;go_wp2_with fail;(with_reducible refine CO.out.mono ?_);rintro e w2 ⟨rfl, k2⟩;have K2 := zb (HC.out.trans k2);have O2 := zb (zm HO.out k2 (fun _ _ e => e));clear k2;go_wp2;go_roundw
    case rel => exact ⟨k + 1, by omega, by go_num, zb ⟨K2.out, by rw [SA2.out]; exact O2.out⟩⟩
    case measure => simp [intOf]; omega
   | true =>
    rw [hcb] at CO SU;clear hcb SA;go_wp2_with fail;(with_reducible refine CO.out.mono ?_);rintro e w2 ⟨rfl, k2⟩;have K2 := zb (HC.out.trans k2);have o2 := zm HO.out k2 (fun _ _ e => e);have b2 := k2.obj (fun e => e) E0.out;have d0 : w2.cell? ⟨wr.heap.size, 0, none⟩ = some (.string a) := ze b2 rfl;have d1 := o2.cellAt k (by omega);have hxl := o2.1;rw [List.getElem?_eq_getElem (by omega)] at d1;generalize (zC (YC R k))[k] = u at d1;have f1 := o2.frozenAt k;have ST := zb (o2.stored k (.string a));clear k2 o2 b2 hxl;go_wp2;go_roundw
    case rel => exact ⟨k + 1, by omega, by go_num, zb ⟨K2.out.grown ST.out.2 (fun x hx hlt => by cases hx; omega), by rw [SU.out]; simp only [if_true]; rw [<- zii]; exact ST.out.1⟩⟩
    case measure => simp [intOf]; omega
  ·obtain rfl : k = R.length := by omega
   obtain ⟨hc, ho⟩ := HR.out;rw [zg3] at ho;have hfl : (xL R).length = R.length := xe R
   have hf4 : ∀ x ∈ xL R, x.size <= 400 := fun x hx => by
    unfold xL at hx;rw [List.mem_map] at hx;obtain ⟨r, hr, rfl⟩ := hx;split
    ·exact HS.out r hr
    ·unfold zag; decide
   have NEW := zb (zm7 wr (.slice (some ⟨w.heap.size, 0, none⟩) R.length R.length) (xL R) (zgk (by rw [hfl]; exact ho) hf4) (by omega) hf4);have FE := zb (zfH R);have FLN := zb (show (yL (R.map Zo)).length = R.length by rw [yh, List.length_map]);have FBL := zb hfl;have HC := zb hc;clear HR hc ho hfl hf4;go_wp2_with fail;(with_reducible refine NEW.out.mono ?_);rintro e w2 ⟨B, cs, rfl, _, m2, k2⟩;have M2 := zb m2;have K2 := zb k2;clear m2 k2;go_wp2;go_ret;refine ⟨B, cs, rfl, ?_, HC.out.trans K2.out⟩;have := M2.out;rw [FE.out, FBL.out] at this;rw [FLN.out];exact zka this HC.out.size
def zk1 (R : List Rul) (w : Wd) (x : Int × Int) : Prop := 0 <= x.2 ∧ x.2 < R.length ∧ Zn (ZP R x.2.toNat) = true ∧ 0 <= x.1 ∧ x.1 + zt (ZP R x.2.toNat).1 <= zt w ∧ (w.drop (2 * x.1.toNat)).take (ZP R x.2.toNat).1.length = (ZP R x.2.toNat).1
instance (R : List Rul) (w : Wd) (x : Int × Int) : Decidable (zk1 R w x) := by unfold zk1; infer_instance
def YP (R : List Rul) (w : Wd) (x : Int × Int) : Option Wd := if zk1 R w x then some (zdt R w (x.1.toNat, x.2.toNat)) else none
def Yz (R : List Rul) (w : Wd) : List (Int × Int) -> Option Wd
 | [] => some w
 | x :: t => match YP R w x with
  | none => none
  | some u => Yz R u t
theorem zcM {R : List Rul} {w : Wd} {a k : Nat} : zk1 R w ((a : Int), (k : Int)) ↔ (a, k) ∈ zgc (yL R) w := by
 unfold zk1 zgc;rw [Xd, yh, zbr];simp only [Int.toNat_natCast];constructor
 ·rintro ⟨_, h2, h3, _, h5, h6⟩
  have hm := ((xi _).1 h3).1;have hp := YB hm;have hl : (ZP R k).1.length = 2 * zt (ZP R k).1 := by unfold zt; omega
  refine ⟨by omega, by omega, ?_⟩;rw [h3, if_pos rfl];exact (Yb _ _ _).2 ⟨hm, by omega, h6⟩
 ·rintro ⟨h1, h2, h3⟩
  cases hc : Zn (ZP R k) with
  | false =>
   rw [hc] at h3;have := (YB ((Yb _ _ _).1 h3).1).1;simp at this
  | true =>
   rw [hc, if_pos rfl] at h3;obtain ⟨q1, q2, q3⟩ := (Yb _ _ _).1 h3;have hp := YB q1;have hl : (ZP R k).1.length = 2 * zt (ZP R k).1 := by unfold zt; omega
   exact ⟨by omega, by omega, rfl, by omega, by omega, q3⟩
theorem zcG (R : List Rul) : ∀ (l : List (Nat × Nat)) (w : Wd), Yz R w (l.map fun h => ((h.1 : Int), (h.2 : Int))) = zbI R w l
 | [], w => rfl
 | (a, k) :: t, w => by
  simp only [List.map_cons, Yz, zbI, YP];by_cases h : (a, k) ∈ zgc (yL R) w
  ·rw [if_pos h, if_pos (zcM.2 h)]
   simp only [Int.toNat_natCast];exact zcG R t _
  ·rw [if_neg h, if_neg (fun q => h (zcM.1 q))]
theorem zcN {R : List Rul} {w u : Wd} {x : Int × Int} (hw : Zm w = true) (h : YP R w x = some u) : Zm u = true ∧ u.length <= w.length := by
 unfold YP at h;split at h
 ·rename_i hs
  cases h;obtain ⟨h1, h2, h3, h4, h5, h6⟩ := hs;obtain ⟨k1, k2, k3⟩ := (xi _).1 h3;have p1 := YB k1;have p2 := YB k2;obtain ⟨q1, q2⟩ := zhu hw k2 (a := x.1.toNat) (n := zt (ZP R x.2.toNat).1) (by omega) k3;refine ⟨q1, ?_⟩;show (ZJ _ _ _ _).length <= _;rw [q2];unfold zt at k3 h5 ⊢;omega
 ·cases h
theorem zbJ (R : List Rul) : ∀ (l : List (Int × Int)) (w : Wd) (x : Int × Int), Yz R w (l ++ [x]) = (Yz R w l).bind (fun u => YP R u x)
 | [], w, x => by
  simp only [List.nil_append, Yz, Option.bind_some];cases YP R w x <;> rfl
 | y :: t, w, x => by
  simp only [List.cons_append, Yz];cases YP R w y with
  | none => rfl
  | some u => exact zbJ R t u x
theorem Yy (R : List Rul) : ∀ (l m : List (Int × Int)) (w : Wd), Yz R w l = none -> Yz R w (l ++ m) = none
 | [], m, w, h => by cases h
 | y :: t, m, w, h => by
  simp only [List.cons_append, Yz] at h ⊢;cases hs : YP R w y with
  | none => rfl
  | some u => rw [hs] at h; exact Yy R t m u h
theorem yG {R : List Rul} {w : Wd} {x : Int × Int} (h : ¬ (0 <= x.2 ∧ x.2 < R.length ∧ Zn (ZP R x.2.toNat) = true)) : YP R w x = none := if_neg (fun q => h ⟨q.1, q.2.1, q.2.2.1⟩)
theorem zaH {R : List Rul} {w : Wd} {x : Int × Int} (h : ¬ (0 <= x.1 ∧ x.1 + zt (ZP R x.2.toNat).1 <= zt w ∧ (w.drop (2 * x.1.toNat)).take (ZP R x.2.toNat).1.length = (ZP R x.2.toNat).1)) : YP R w x = none := if_neg (fun q => h q.2.2.2)
end Go.Proofs.YthdfplafihmejaaGreat
