/-
  RRefA: what else. RFind: what else. RTellR1: what else. RArgs: what else. RHelp: what else. The reference's Leads. The reference's All. SSetH: what else. RArgsZ: what else. RHelpZ: what else. UPlain: what else.
-/
import Derived.Test.YthdfplafihmejaaGreatZcCLike
import Derived.Test.YthdfplafihmejaaGreatZcMRefsZY
import Derived.Test.YthdfplafihmejaaGreatZcCCert1
import Derived.Test.YthdfplafihmejaaGreatZcUPlain
namespace Go.Proofs.YthdfplafihmejaaGreat

theorem znn (x y : UInt8) : UInt8.ofNat ((x.toNat * 256 + y.toNat) / 256) = x := by
 have := y.toNat_lt;rw [show (x.toNat * 256 + y.toNat) / 256 = x.toNat by omega]; simp
theorem znm (x y : UInt8) : UInt8.ofNat ((x.toNat * 256 + y.toNat) % 256) = y := by
 have := y.toNat_lt;rw [show (x.toNat * 256 + y.toNat) % 256 = y.toNat by omega]; simp
theorem YD (x y : UInt8) (l : Wd) : zI (x :: y :: l) = (x.toNat * 256 + y.toNat) :: zI l := by
 apply List.ext_getElem?;intro i;have e : zt (x :: y :: l) = zt l + 1 := by unfold zt; simp only [List.length_cons]; omega
 rcases i with _ | i
 ·rw [ZW _ (by omega)]; rfl
 ·by_cases hi : i < zt l
  ·rw [ZW _ (by omega), List.getElem?_cons_succ, ZW _ hi]
   rfl
  ·rw [List.getElem?_eq_none (by rw [zJ]; omega), List.getElem?_eq_none (by rw [List.length_cons, zJ]; omega)]
theorem Yh : ∀ (l : Wd), l.length % 2 = 0 -> zY (zI l) = l
 | [], _ => rfl
 | [x], h => by simp at h
 | x :: y :: l, h => by
  have := Yh l (by simp only [List.length_cons] at h; omega);rw [YD];unfold zY at this ⊢;rw [List.flatMap_cons, this, znn, znm]; rfl
theorem zal : ∀ (a b : Wd), a.length % 2 = 0 -> zI (a ++ b) = zI a ++ zI b
 | [], b, _ => by simp [zI, zt]
 | [x], b, h => by simp at h
 | x :: y :: l, b, h => by
  rw [List.cons_append, List.cons_append, YD, YD, zal l b (by simp only [List.length_cons] at h; omega)]; rfl
theorem zb2 : ∀ (k : Nat) (l : Wd), zI (l.take (2 * k)) = (zI l).take k
 | 0, l => by simp [zI, zt]
 | k + 1, [] => by simp [zI, zt]
 | k + 1, [x] => by
  rw [List.take_of_length_le (by simp; omega), List.take_of_length_le (by rw [zJ]; unfold zt; simp)]
 | k + 1, x :: y :: l => by
  rw [show 2 * (k + 1) = 2 * k + 1 + 1 by omega, List.take_succ_cons, List.take_succ_cons, YD, YD, List.take_succ_cons, zb2 k l]
theorem zaB : ∀ (k : Nat) (l : Wd), zI (l.drop (2 * k)) = (zI l).drop k
 | 0, l => by simp
 | k + 1, [] => by simp [zI, zt]
 | k + 1, [x] => by
  rw [List.drop_eq_nil_of_le (by simp; omega), List.drop_eq_nil_of_le (by rw [zJ]; unfold zt; simp)]; rfl
 | k + 1, x :: y :: l => by
  rw [show 2 * (k + 1) = 2 * k + 1 + 1 by omega, List.drop_succ_cons, List.drop_succ_cons, YD, List.drop_succ_cons, zaB k l]
theorem zkO (l : Wd) (a n : Nat) : ((zI l).drop a).take n = zI ((l.drop (2 * a)).take (2 * n)) := by rw [zb2, zaB]
theorem zkC (l : Wd) (a n : Nat) (h : a + n <= zt l) : zY (((zI l).drop a).take n) = (l.drop (2 * a)).take (2 * n) := by
 rw [zkO, Yh];unfold zt at h;rw [List.length_take, List.length_drop]; omega
theorem zjf (l v : Wd) (a n : Nat) (hv : v.length % 2 = 0) (h : a + n <= zt l) : (zI l).take a ++ zI v ++ (zI l).drop (a + n) = zI (ZJ l a n v) := by
 unfold ZJ;unfold zt at h;rw [zal _ _ (by simp only [List.length_append, List.length_take]; omega), zal _ _ (by rw [List.length_take]; omega), zb2, zaB]
theorem zil (l v : Wd) (a n : Nat) (hl : l.length % 2 = 0) (hv : v.length % 2 = 0) (h : a + n <= zt l) : zY ((zI l).take a ++ zI v ++ (zI l).drop (a + n)) = ZJ l a n v := by
 rw [zjf l v a n hv h, Yh];unfold ZJ;unfold zt at h;simp only [List.length_append, List.length_take, List.length_drop]; omega
open Go.RowKit Go.Maps
theorem ZS (l : List Nat) (j : Nat) : (Zk l)[j]? = (l[j]?).map fun (a : Nat) => Value.int .u16 (a : Int) := by unfold Zk; rw [List.getElem?_map]
theorem zcA {l : Wd} {a : Nat} (h : a ∈ zI l) : a < 65536 := by
 unfold zI at h;rw [List.mem_map] at h;obtain ⟨i, _, rfl⟩ := h;exact yu l i
set_option maxRecDepth 100000 in
theorem zhA (w : World) (s : ByteArray) (a : Int) (n : Nat) (hs : s.size <= 1000) (hs2 : s.size % 2 = 0) (hn : 1 <= n) (hn2 : n <= 1000) (ha : -9223372036854775808 <= a ∧ a <= 9223372036854775807) :
  Calls Tryz.prog 109 #[.string s, .int .i64 a, .int .i64 (n : Int)] w fun e w' => e = .returned (znA s a n) ∧ Chg (fun _ => False) w w' := by
 have ATO := zb (YA w s (by omega));have hN : s.size = 2 * zt s.data.toList := by unfold zt; rw [zv]; omega
 have CUT := zb (zkC s.data.toList a.toNat n);have AL := zb (zJ s.data.toList);have SV := zb (show (zhl s a n -> znA s a n = .tuple #[.string (bar ((s.data.toList.drop (2 * a.toNat)).take (2 * n))), .int .i64 0]) ∧ (¬ zhl s a n -> znA s a n = .tuple #[.string ⟨#[]⟩, .int .i64 5]) from ⟨fun h => if_pos h, fun h => if_neg h⟩);have SO := zb (show zhl s a n ↔ 0 <= a ∧ a + n <= zt s.data.toList from Iff.rfl);rw [AL.out] at ATO;generalize zt s.data.toList = N at *;have g0 : ((s.size : Int) % 2 == 1) = false := by rw [beq_eq_false_iff_ne]; omega
 have g1 : decide ((n : Int) < 0) = false := by rw [decide_eq_false_iff_not]; omega
 by_cases h1 : a < 0
 ·have g2 : decide (a < 0) = true := by rw [decide_eq_true_eq]; exact h1
  have RES := zb (SV.out.2 (fun h => by have := SO.out.1 h; omega));clear hN;go_enter Tryz.func109, Tryz.ntmps109;go_wp2_with fail;(with_reducible refine ATO.out.mono ?_);rintro e w1 ⟨v1, rfl, o1, c1⟩;go_wp2;go_ret2;exact ⟨by rw [RES.out]; rfl, c1⟩
 ·have g2 : decide (a < 0) = false := by rw [decide_eq_false_iff_not]; exact h1
  obtain ⟨i, rfl⟩ : ∃ i : Nat, a = i := ⟨a.toNat, by omega⟩;by_cases h2 : N < i
  ·have g3 : decide (N < i) = true := by rw [decide_eq_true_eq]; exact h2
   have RES := zb (SV.out.2 (fun h => by have := SO.out.1 h; omega));clear hN;go_enter Tryz.func109, Tryz.ntmps109;go_wp2_with fail;(with_reducible refine ATO.out.mono ?_);rintro e w1 ⟨v1, rfl, o1, c1⟩;obtain ⟨av, cv, rfl⟩ := zl o1;go_wp2;go_ret2;exact ⟨by rw [RES.out]; rfl, c1⟩
  ·have g3 : decide (N < i) = false := by rw [decide_eq_false_iff_not]; exact h2
   by_cases h3 : N < i + n
   ·have g4 : decide ((N : Int) - (i : Int) < (n : Int)) = true := by rw [decide_eq_true_eq]; omega
    have RES := zb (SV.out.2 (fun h => by have := SO.out.1 h; omega));have hN2 : N <= 1000 := by omega
    clear hN;go_enter Tryz.func109, Tryz.ntmps109;go_wp2_with fail;(with_reducible refine ATO.out.mono ?_);rintro e w1 ⟨v1, rfl, o1, c1⟩;obtain ⟨av, cv, rfl⟩ := zl o1;go_wp2;go_ret2;exact ⟨by rw [RES.out]; rfl, c1⟩
   ·have g4 : decide ((N : Int) - (i : Int) < (n : Int)) = false := by rw [decide_eq_false_iff_not]; omega
    have RES := zb (SV.out.1 (SO.out.2 ⟨by omega, by omega⟩));have CB := zb (CUT.out (by omega));have hN2 : N <= 1000 := by omega
    clear hN;go_enter Tryz.func109, Tryz.ntmps109;go_wp2_with fail;(with_reducible refine ATO.out.mono ?_);rintro e w1 ⟨v1, rfl, o1, c1⟩;obtain ⟨av, cv, rfl⟩ := zl o1;obtain ⟨g, rfl⟩ := ZV o1 (by omega)
    have hcv : N <= cv ∧ cv <= maxLen := by
     obtain ⟨_, ⟨q, _⟩ | ⟨g', c', cur, q, _, _, q1, q2, _⟩⟩ := o1
     ·cases q
     ·cases q; exact ⟨q1, q2⟩
    obtain ⟨hc1, hc2⟩ := hcv;unfold maxLen at hc2;have e1 : (i == cv) = false := by rw [beq_eq_false_iff_ne]; omega
    have e2 : i ≠ cv := by omega
    have OF := zb (zeo w1 (some ⟨g, i, none⟩) (cv - i) (((zI s.data.toList).drop i).take n) (by rw [List.length_take, List.length_drop, AL.out]; omega) (by rw [List.length_take, List.length_drop, AL.out]; omega) (fun j x hj => by
     have hj' : j < n := by
      have := (List.getElem?_eq_some_iff.1 hj).1;rw [List.length_take] at this; omega
     rw [List.getElem?_take_of_lt hj', List.getElem?_drop] at hj;refine ⟨zcA (List.mem_of_getElem? hj), g, i, rfl, ?_⟩;rw [o1.cellAt (i + j) (by omega), ZS, hj]; rfl))
    rw [show (((zI s.data.toList).drop i).take n).length = n by rw [List.length_take, List.length_drop, AL.out]; omega] at OF;have C1 := zb c1;clear c1 o1;rw [Int.toNat_natCast] at CB RES;rw [CB.out] at OF;go_wp2_with fail;(with_reducible refine OF.out.mono ?_);rintro e w2 ⟨rfl, c2⟩;go_wp2;go_ret2;exact ⟨by rw [RES.out]; rfl, C1.out.trans c2⟩
theorem zlv (w : World) (s : ByteArray) (i n : Nat) (hs : s.size <= 1000) (hs2 : s.size % 2 = 0) (hn : 1 <= n) (hn2 : n <= 1000) (h : i + n <= zt s.data.toList) :
  Calls Tryz.prog 109 #[.string s, .int .i64 (i : Int), .int .i64 (n : Int)] w fun e w' => e = .returned (.tuple #[.string (bar ((s.data.toList.drop (2 * i)).take (2 * n))), .int .i64 0]) ∧ Chg (fun _ => False) w w' := by
 have hN : s.size = 2 * zt s.data.toList := by unfold zt; rw [zv]; omega
 have := zhA w s i n hs hs2 hn hn2 (by omega);unfold znA at this;rw [if_pos ⟨by omega, by omega⟩, Int.toNat_natCast] at this;exact this
set_option maxHeartbeats 1000000 in
set_option maxRecDepth 100000 in
theorem zlu (w : World) (s v : ByteArray) (i n : Nat) (hs : s.size <= 1000) (hv : v.size <= 1000) (hs2 : s.size % 2 = 0) (hv2 : v.size % 2 = 0) (hv0 : 0 < v.size) (hn : 1 <= n) (h : i + n <= zt s.data.toList) (h8 : zt s.data.toList - n + zt v.data.toList <= 8) :
  Calls Tryz.prog 110 #[.string s, .int .i64 (i : Int), .int .i64 (n : Int), .string v] w fun e w' => e = .returned (.tuple #[.string (bar (ZJ s.data.toList i n v.data.toList)), .int .i64 0]) ∧ Chg (fun _ => False) w w' := by
 have hN : s.size = 2 * zt s.data.toList := by unfold zt; rw [zv]; omega
 have hM : v.size = 2 * zt v.data.toList := by unfold zt; rw [zv]; omega
 have SUB := zb (zlv w s i n hs hs2 hn (by omega) h);have ATS := zb (fun w => YA w s (by omega));have ATV := zb (fun w => YA w v (by omega));have SWB := zb (zil s.data.toList v.data.toList i n (by rw [zv]; exact hs2) (by rw [zv]; exact hv2) h);have AL := zb (zJ s.data.toList);have AM := zb (zJ v.data.toList);have LS := zb (fun a (h : a ∈ zI s.data.toList) => zcA h);have LV := zb (fun a (h : a ∈ zI v.data.toList) => zcA h);rw [AL.out] at ATS;rw [AM.out] at ATV;generalize zt s.data.toList = N at *;generalize zt v.data.toList = M at *;generalize zI s.data.toList = A at *;generalize zI v.data.toList = B at *;have g0 : ((s.size : Int) % 2 == 1) = false := by rw [beq_eq_false_iff_ne]; omega
 have g1 : ((v.size : Int) % 2 == 1) = false := by rw [beq_eq_false_iff_ne]; omega
 have hNb : N <= 2000 := by omega
 have hMb : 1 <= M := by omega
 clear hN hM;go_enter Tryz.func110, Tryz.ntmps110;go_wp2_with fail;(with_reducible refine SUB.out.mono ?_);rintro e w1 ⟨rfl, c1⟩;have C1 := zb c1;clear c1 SUB;go_wp2_with fail;(with_reducible refine (ATS.out _).mono ?_);rintro e w2 ⟨v2, rfl, o2, c2⟩;obtain ⟨av, cv, rfl⟩ := zl o2;obtain ⟨g, rfl⟩ := ZV o2 (by omega)
 have hcv : N <= cv ∧ cv <= maxLen := by
  obtain ⟨_, ⟨q, _⟩ | ⟨g', c', cur, q, _, _, q1, q2, _⟩⟩ := o2
  ·cases q
  ·cases q; exact ⟨q1, q2⟩
 obtain ⟨hc1, hc2⟩ := hcv;unfold maxLen at hc2;have C2 := zb (C1.out.trans c2);have O2 := zb o2;have hgl : g < w2.heap.size := (o2.lt g rfl).2;clear o2 c2 C1;have z0 : 0 ≠ cv := by omega
 have z1 : ¬ cv = 0 := by omega
 have z2 : i <= cv := by omega
 have z3 : i + n <= cv := by omega
 go_wp2_with (at_builtin; refine zN rfl (.tmp 36) (.tmp 39) 125 rfl 62 1 2 Tryz.underlying125 Tryz.elemAtom w2.heap.size _ 0 [] rfl (ZK _ _ _ _ (Nat.le_refl _)) (some ⟨g, 0, none⟩) i cv (Zk (A.take i)) rfl ?a1 ?a2 ?a3 ?a4 ?a5 ?a6 ?a7 ?next)
 case a1 => unfold Zk; rw [List.length_map, List.length_take, AL.out]; omega
 case a2 =>
  intro j u hj;rw [ZS] at hj
  have hji : j < i := by
   rcases Nat.lt_or_ge j i with q | q
   ·exact q
   ·rw [List.getElem?_eq_none (by rw [List.length_take]; omega)] at hj; cases hj
  rw [List.getElem?_take_of_lt hji, <- ZS] at hj;refine ⟨g, 0, rfl, ?_⟩;rw [Nat.zero_add];refine zi (zh (fun _ => False) w2 _) (fun e => e) ?_;rw [O2.out.cellAt j (by omega)]; exact hj
 case a3 => intro q; cases q
 case a4 => intro u hu; unfold Zk at hu; rw [List.mem_map] at hu; obtain ⟨x, _, rfl⟩ := hu; rfl
 case a5 => omega
 case a6 => unfold maxLen; omega
 case a7 => simp
 intro v3 w3 o3 g3
 have k3 : Chg (fun _ => False) w2 w3 := (zh (fun _ => False) w2 (.cells #[] 62)).next (Chg.of_grown g3) (fun x hx e => by
  have e2 : w2.heap.size = x := by simpa [Value.ownBlock] using e
  omega)
 have C3 := zb (C2.out.trans k3);have O3 := zb o3;have O23 := zb (zm O2.out k3 (fun _ _ e => e));have hs3 := k3.size;obtain ⟨a3, cp3, rfl⟩ := zl o3;clear o3 g3 k3 O2;go_wp2_with fail;(with_reducible refine (ATV.out _).mono ?_);rintro e w4 ⟨v4, rfl, o4, c4⟩;obtain ⟨av4, cv4, rfl⟩ := zl o4;obtain ⟨g4, rfl⟩ := ZV o4 (by omega);have O4 := zb o4;have O34 := zb (zm O3.out c4 (fun _ _ e => e));have O24 := zb (zm O23.out c4 (fun _ _ e => e));have C4 := zb (C3.out.trans c4);have hs4 := c4.size;clear o4 c4 C3 O3 O23;go_wp2_with (at_builtin; refine zN rfl (.tmp 41) (.tmp 43) 125 rfl 62 1 2 Tryz.underlying125 Tryz.elemAtom w2.heap.size _ i (Zk (A.take i)) rfl O34.out (some ⟨g4, 0, none⟩) M cv4 (Zk B) rfl ?b1 ?b2 ?b3 ?b4 ?b5 ?b6 ?b7 ?next2)
 case b1 => unfold Zk; rw [List.length_map, AM.out]; omega
 case b2 =>
  intro j u hj;refine ⟨g4, 0, rfl, ?_⟩;have hjl := (List.getElem?_eq_some_iff.1 hj).1;unfold Zk at hjl;rw [List.length_map, AM.out] at hjl;rw [Nat.zero_add, O4.out.cellAt j (by omega)]; exact hj
 case b3 => intro q; cases q
 case b4 => intro u hu; unfold Zk at hu; rw [List.mem_map] at hu; obtain ⟨x, _, rfl⟩ := hu; rfl
 case b5 => omega
 case b6 => unfold maxLen; omega
 case b7 => omega
 intro v5 w5 o5 g5
 have k5 : Chg (fun _ => False) w w5 := C4.out.next (Chg.of_grown g5) (fun x hx e => by
  have := (O34.out.lt x e).1;have := C2.out.size;omega)
 have O25 := zb (zm O24.out (Chg.of_grown g5) (fun x hx e => by
  have h1 := (O34.out.lt x e).1;have h2 : g = x := by simpa [Value.ownBlock] using hx
  omega))
 have C5 := zb k5;have O5 := zb o5;have hs5 := g5.size;obtain ⟨a5, cp5, rfl⟩ := zl o5;clear o5 k5 g5 C4 O34 O24
 have AFT := zb (show ∀ (v6 : Value) (w6 : World), w6.ownsRow w2.heap.size 62 1 v6 (i + M + (N - (i + n))) (Zk (A.take i) ++ Zk B ++ Zk (A.drop (i + n))) -> ∃ a6 c6, v6 = .slice a6 (i + M + (N - (i + n))) c6 ∧ (Calls Tryz.prog 30 #[.slice a6 (i + M + (N - (i + n))) c6] w6 fun e w' => e = .returned (.string (bar (ZJ s.data.toList i n v.data.toList))) ∧ Chg (fun _ => False) w6 w') from fun v6 w6 o6 => by
  obtain ⟨a6, c6, rfl⟩ := zl o6;refine ⟨a6, c6, rfl, ?_⟩;have el : (A.take i ++ B ++ A.drop (i + n)).length = i + M + (N - (i + n)) := by simp only [List.length_append, List.length_take, List.length_drop, AL.out, AM.out]; omega
  have ec : Zk (A.take i) ++ Zk B ++ Zk (A.drop (i + n)) = Zk (A.take i ++ B ++ A.drop (i + n)) := by unfold Zk; simp only [List.map_append]
  rw [ec] at o6;obtain ⟨g6, rfl⟩ := ZV o6 (by omega)
  have := zeo w6 (some ⟨g6, 0, none⟩) c6 (A.take i ++ B ++ A.drop (i + n)) (by rw [el]; omega) (by rw [el]; omega) (fun j x hj => by
   refine ⟨?_, g6, 0, rfl, ?_⟩
   ·have hm := List.mem_of_getElem? hj
    rw [List.mem_append, List.mem_append] at hm;rcases hm with (hm | hm) | hm
    ·exact LS.out x (List.mem_of_mem_take hm)
    ·exact LV.out x hm
    ·exact LS.out x (List.mem_of_mem_drop hm)
   ·have hjl := (List.getElem?_eq_some_iff.1 hj).1
    rw [Nat.zero_add, o6.cellAt j (by omega), ZS, hj]; rfl)
  rw [el] at this;rw [SWB.out] at this;exact this)
 have hlast : i + M + (N - (i + n)) <= 8 := by omega
 have FIN := zb (show ∀ (v6 : Value) (w6 : World), w5.grownBy w6 (Value.slice a5 (i + M) cp5).ownBlock -> Chg (fun _ => False) w w6 from fun v6 w6 g6 => C5.out.next (Chg.of_grown g6) (fun x hx e => by
  have := (O5.out.lt x e).1;have := C2.out.size;omega))
 by_cases hq : i + n = cv
 ·have hNN : N = i + n := by omega
  have g9 : N - (i + n) = 0 := by omega
  subst hq;subst hNN;go_wp2_with (at_builtin; refine zN rfl (.tmp 45) (.tmp 50) 125 rfl 62 1 2 Tryz.underlying125 Tryz.elemAtom w2.heap.size _ (i + M) (Zk (A.take i) ++ Zk B) rfl O5.out (some ⟨g, 0, none⟩) (i + n - (i + n)) (i + n - (i + n)) [] rfl ?d1 ?d2 ?d3 ?d4 ?d5 ?d6 ?d7 ?next3)
  case d1 => simp
  case d2 => intro j u hj; simp at hj
  case d3 => intro q; cases q
  case d4 => intro u hu; cases hu
  case d5 => omega
  case d6 => unfold maxLen; omega
  case d7 => omega
  intro v6 w6 o6 g6;have K6 := zb (FIN.out v6 w6 g6);obtain ⟨a6, c6, rfl, OF⟩ := AFT.out v6 w6 (by rw [List.drop_eq_nil_of_le (show A.length <= i + n by rw [AL.out]; omega)]; simpa [Zk] using o6);have OFF := zb OF;rw [Nat.sub_self, Nat.add_zero] at OFF;clear o6 g6 OF AFT;go_wp2_with fail;(with_reducible refine OFF.out.mono ?_);rintro e w7 ⟨rfl, c7⟩;go_wp2;go_ret2;exact ⟨rfl, K6.out.trans c7⟩
 ·have hq2 : ¬ cv = i + n := fun e => hq e.symm
  go_wp2_with (at_builtin; refine zN rfl (.tmp 45) (.tmp 50) 125 rfl 62 1 2 Tryz.underlying125 Tryz.elemAtom w2.heap.size _ (i + M) (Zk (A.take i) ++ Zk B) rfl O5.out (some ⟨g, i + n, none⟩) (N - (i + n)) (cv - (i + n)) (Zk (A.drop (i + n))) rfl ?f1 ?f2 ?f3 ?f4 ?f5 ?f6 ?f7 ?next4)
  case f1 => unfold Zk; rw [List.length_map, List.length_drop, AL.out]; omega
  case f2 =>
   intro j u hj;rw [ZS, List.getElem?_drop, <- ZS] at hj;have hjl := (List.getElem?_eq_some_iff.1 hj).1;unfold Zk at hjl;rw [List.length_map, AL.out] at hjl;refine ⟨g, i + n, rfl, ?_⟩;rw [O25.out.cellAt (i + n + j) (by omega)]; exact hj
  case f3 => intro q; cases q
  case f4 => intro u hu; unfold Zk at hu; rw [List.mem_map] at hu; obtain ⟨x, _, rfl⟩ := hu; rfl
  case f5 => omega
  case f6 => unfold maxLen; omega
  case f7 => omega
  intro v6 w6 o6 g6;have K6 := zb (FIN.out v6 w6 g6);obtain ⟨a6, c6, rfl, OF⟩ := AFT.out v6 w6 (by simpa using o6);have OFF := zb OF;clear o6 g6 OF AFT;go_wp2_with fail;(with_reducible refine OFF.out.mono ?_);rintro e w7 ⟨rfl, c7⟩;go_wp2;go_ret2;exact ⟨rfl, K6.out.trans c7⟩
theorem zhY (a b : ByteArray) : (a.toList == b.toList) = decide (a.data.toList = b.data.toList) := by
 rw [ByteArray.toList_eq, ByteArray.toList_eq, Bool.eq_iff_iff, beq_iff_eq, decide_eq_true_eq]
theorem zmb (a b : ByteArray) : (a.toList != b.toList) = !decide (a.data.toList = b.data.toList) := by
 rw [bne, zhY]
theorem zjd {a b : ByteArray} (ha : Zm a.data.toList = true) (hb : Zm b.data.toList = true) : Zn (Zo (a, b)) = decide (b.size <= a.size) := by
 have h1 := Zh ha;have h2 := Zh hb;unfold Zn Zo;simp only;rw [ha, hb, Bool.true_and, Bool.true_and];unfold zt;rw [zv, zv]
 congr 1
 rw [eq_iff_iff];omega
set_option maxRecDepth 100000 in
theorem zgL (w : World) (r : zA) (h1 : r.1.size <= 140737488355328) (h2 : r.2.size <= 140737488355328) :
  Calls Tryz.prog 26 #[zfe r] w fun e w' => e = .returned (.bool (Zn (Zo r))) ∧ Chg (fun _ => False) w w' := by
 obtain ⟨a, b⟩ := r;simp only at h1 h2;have MA := zb (fun w => zat w a h1);have MB := zb (fun w => zat w b h2);have CB := zb (show Zn (Zo (a, b)) = (Zm a.data.toList && Zm b.data.toList && decide (zt b.data.toList <= zt a.data.toList)) from rfl);have CL := zb (@zjd a b);unfold zfe;simp only;cases ha : Zm a.data.toList with
 | false =>
  rw [ha] at MA CB;clear ha;go_enter Tryz.func26, Tryz.ntmps26;go_wp2_with fail;(with_reducible refine (MA.out _).mono ?_);rintro e w1 ⟨rfl, k1⟩;go_wp2;go_ret;exact ⟨by rw [CB.out]; rfl, (zh _ w _).trans k1⟩
 | true =>
  rw [ha] at MA CB;have o0 := zf w (.cells #[.string a, .string b] 66);cases hb : Zm b.data.toList with
  | false =>
   rw [hb] at MB CB;clear ha hb;have O0 := zb o0;clear o0;go_enter Tryz.func26, Tryz.ntmps26;go_wp2_with fail;(with_reducible refine (MA.out _).mono ?_);rintro e w1 ⟨rfl, k1⟩;have d1 : w1.cell? ⟨w.heap.size, 1, none⟩ = some (.string b) := ze (k1.obj (fun e => e) O0.out) rfl;go_wp2_with fail;(with_reducible refine (MB.out _).mono ?_);rintro e w2 ⟨rfl, k2⟩;go_wp2;go_ret;exact ⟨by rw [CB.out]; rfl, ((zh _ w _).trans k1).trans k2⟩
  | true =>
   rw [hb] at MB;have CC := zb (CL.out ha hb);clear ha hb;have O0 := zb o0;clear o0;cases hl : decide (b.size <= a.size) with
   | false =>
    rw [hl] at CC;go_enter Tryz.func26, Tryz.ntmps26;go_wp2_with fail;(with_reducible refine (MA.out _).mono ?_);rintro e w1 ⟨rfl, k1⟩;have d1 : w1.cell? ⟨w.heap.size, 1, none⟩ = some (.string b) := ze (k1.obj (fun e => e) O0.out) rfl;go_wp2_with fail;(with_reducible refine (MB.out _).mono ?_);rintro e w2 ⟨rfl, k2⟩;have d2 : w2.cell? ⟨w.heap.size, 1, none⟩ = some (.string b) := zi k2 (fun e => e) d1;have d3 : w2.cell? ⟨w.heap.size, 0, none⟩ = some (.string a) := ze (k2.obj (fun e => e) (k1.obj (fun e => e) O0.out)) rfl;go_wp2;go_ret;exact ⟨by rw [CC.out]; rfl, ((zh _ w _).trans k1).trans k2⟩
   | true =>
    rw [hl] at CC;go_enter Tryz.func26, Tryz.ntmps26;go_wp2_with fail;(with_reducible refine (MA.out _).mono ?_);rintro e w1 ⟨rfl, k1⟩;have d1 : w1.cell? ⟨w.heap.size, 1, none⟩ = some (.string b) := ze (k1.obj (fun e => e) O0.out) rfl;go_wp2_with fail;(with_reducible refine (MB.out _).mono ?_);rintro e w2 ⟨rfl, k2⟩;have d2 : w2.cell? ⟨w.heap.size, 1, none⟩ = some (.string b) := zi k2 (fun e => e) d1;have d3 : w2.cell? ⟨w.heap.size, 0, none⟩ = some (.string a) := ze (k2.obj (fun e => e) (k1.obj (fun e => e) O0.out)) rfl;go_wp2;go_ret;exact ⟨by rw [CC.out]; rfl, ((zh _ w _).trans k1).trans k2⟩
set_option maxHeartbeats 1000000 in
set_option maxRecDepth 100000 in
theorem zlt (w : World) (v : Value) (R : List zA) (u : ByteArray) (xa xk : Int) (hv : zM w v (· < w.heap.size) R) (h47 : zf9 R) (hmay : Zm u.data.toList = true) (hxa : -9223372036854775808 <= xa ∧ xa <= 9223372036854775807) :
  Calls Tryz.prog 78 #[v, .string u, .agg #[.int .i64 xa, .int .i64 xk]] w fun e w' => e = .returned (zoh (YP (R.map Zo) u.data.toList (xa, xk))) ∧ Chg (fun _ => False) w w' := by
 have HV := zb hv;obtain ⟨la, cap, rfl, hl0, hvl⟩ := hv;have hu8 := Zh hmay;have HMAY := zb hmay;unfold maxLen at hl0;have b0 := zf w (.cells #[.int .i64 xa, .int .i64 xk] 153);have B0 := zb b0;have K2 := zb (zh (fun _ => False) w (.cells #[.int .i64 xa, .int .i64 xk] 153));clear b0 hmay;by_cases hx0 : xk < 0
 ·have g0 : decide (xk < 0) = true := by rw [decide_eq_true_eq]; exact hx0
  have RES := zb (yG (R := R.map Zo) (w := u.data.toList) (x := (xa, xk)) (fun q => by have := q.1; simp only at this; omega));clear hx0 hvl;go_enter Tryz.func78, Tryz.ntmps78;go_wp2;go_ret2;exact ⟨by rw [RES.out]; rfl, K2.out⟩
 ·have g0 : decide (xk < 0) = false := by rw [decide_eq_false_iff_not]; exact hx0
  obtain ⟨j, rfl⟩ : ∃ j : Nat, xk = j := ⟨xk.toNat, by omega⟩;by_cases hj : R.length <= j
  ·have g1 : decide (R.length <= j) = true := by rw [decide_eq_true_eq]; exact hj
   have RES := zb (yG (R := R.map Zo) (w := u.data.toList) (x := (xa, (j : Int))) (fun q => by have := q.2.1; simp only [List.length_map] at this; omega));clear hvl;go_enter Tryz.func78, Tryz.ntmps78;go_wp2;go_ret2;exact ⟨by rw [RES.out]; rfl, K2.out⟩
  ·have g1 : decide (R.length <= j) = false := by rw [decide_eq_false_iff_not]; exact hj
   have hjl : j < R.length := by omega
   obtain ⟨⟨ra, rb⟩, hr⟩ : ∃ r, R[j]? = some r := ⟨_, List.getElem?_eq_getElem (show j < R.length by omega)⟩;obtain ⟨ga, gc, rfl, hga, d0, d1, hra, hrb⟩ := hvl j _ hr;obtain ⟨h47a, h47b⟩ := h47 _ (List.mem_of_getElem? hr);simp only at d0 d1 h47a h47b;have RU := zb (zgE hr);have US := zb (fun a => zhq hr u.data.toList a);have CNT := zb (zgL (w.alloc (.cells #[.int .i64 xa, .int .i64 (j : Int)] 153)) (ra, rb) h47a h47b);unfold zfe at CNT;simp only at CNT;clear hvl hr;cases hc : Zn (Zo (ra, rb)) with
   | false =>
    rw [hc] at CNT;have RES := zb (yG (R := R.map Zo) (w := u.data.toList) (x := (xa, (j : Int))) (fun q => by have h := q.2.2; simp only [Int.toNat_natCast] at h; rw [RU.out, hc] at h; cases h));clear hc;go_enter Tryz.func78, Tryz.ntmps78;go_wp2_with fail;(with_reducible refine CNT.out.mono ?_);rintro e w3 ⟨rfl, k3⟩;go_wp2;go_ret2;exact ⟨by rw [RES.out]; rfl, K2.out.trans k3⟩
   | true =>
    rw [hc] at CNT;obtain ⟨m1, m2, m3⟩ := (xi _).1 hc;simp only [Zo] at m1 m2 m3;have SA := Zh m1;have SB := Zh m2;have PA := YB m1;have PB := YB m2;rw [zv] at PA PB;have NP := zb (fun h => zaH (R := R.map Zo) (w := u.data.toList) (x := (xa, (j : Int))) (by simp only [Int.toNat_natCast]; rw [RU.out]; exact h));have HC := zb hc;clear hc m1 m2;go_enter Tryz.func78, Tryz.ntmps78;go_wp2_with fail;(with_reducible refine CNT.out.mono ?_);rintro e w3 ⟨rfl, k3⟩;have b3 := k3.obj (fun e => e) B0.out;have d0' : w3.cell? ⟨ga, gc + j * 2, none⟩ = some (.string ra) := zi k3 (fun e => e) (zi (zh (fun _ => False) w _) (fun e => e) d0);have d1' : w3.cell? ⟨ga, gc + j * 2 + 1, none⟩ = some (.string rb) := zi k3 (fun e => e) (zi (zh (fun _ => False) w _) (fun e => e) d1);have e0 : w3.cell? ⟨w.heap.size, 0, none⟩ = some (.int .i64 xa) := ze b3 rfl;have e1 : w3.cell? ⟨w.heap.size, 1, none⟩ = some (.int .i64 (j : Int)) := ze b3 rfl;have hsz3 : w.heap.size < w3.heap.size := by have := k3.size; simp at this; omega
    have K3 := zb (K2.out.trans k3);have hue : u.size = 2 * zt u.data.toList := by unfold zt; rw [zv]; omega
    have hae : ra.size = 2 * zt ra.data.toList := by unfold zt; rw [zv]; omega
    have q2 : ((ra.size : Int) / 2) = ((zt ra.data.toList : Nat) : Int) := by omega
    clear d0 d1 b3 k3 CNT;have b4 := zf w3 (.cells #[.string ra, .string rb] 66);have K4 := zb (K3.out.alloc (.cells #[.string ra, .string rb] 66));have SUB := zb (zhA (w3.alloc (.cells #[.string ra, .string rb] 66)) u xa (zt ra.data.toList) (by omega) (by omega) (by omega) (by omega) hxa);have B4 := zb b4;clear b4;by_cases hok : zhl u xa (zt ra.data.toList)
    ·rw [show znA u xa (zt ra.data.toList) = .tuple #[.string (bar ((u.data.toList.drop (2 * xa.toNat)).take (2 * zt ra.data.toList))), .int .i64 0] from if_pos hok] at SUB
     obtain ⟨hok1, hok2⟩ := hok;obtain ⟨i, rfl⟩ : ∃ i : Nat, xa = i := ⟨xa.toNat, by omega⟩;rw [Int.toNat_natCast] at SUB;have hal : ra.data.toList.length = 2 * zt ra.data.toList := by rw [zv]; exact hae
     by_cases hcut : (u.data.toList.drop (2 * i)).take (2 * zt ra.data.toList) = ra.data.toList
     ·have ST : YP (R.map Zo) u.data.toList ((i : Int), (j : Int)) = some (ZJ u.data.toList i (zt ra.data.toList) rb.data.toList) := by
       unfold YP;rw [if_pos]
       ·simp only [Int.toNat_natCast]; rw [US.out]
       ·refine ⟨by simp only; omega, by simp only [List.length_map]; omega, ?_, by simp only; omega, ?_, ?_⟩
        ·simp only [Int.toNat_natCast]; rw [RU.out]; exact HC.out
        ·simp only [Int.toNat_natCast]; rw [RU.out]; simp only [Zo]; omega
        ·simp only [Int.toNat_natCast]; rw [RU.out]; simp only [Zo]; rw [hal]; exact hcut
      rw [hcut] at SUB;rw [zhZ] at SUB;have RES := zb ST;have SW := zb (fun w => zlu w u rb i (zt ra.data.toList) (by omega) (by omega) (by omega) (by omega) (by omega) (by omega) (by omega) (by omega));have n1 : (ra.toList != ra.toList) = false := by simp
      clear hcut ST hal hue hae m3;generalize zt ra.data.toList = M at *;generalize ZJ u.data.toList i M rb.data.toList = uw at *;go_wp2_with fail;(with_reducible refine SUB.out.mono ?_);rintro e w5 ⟨rfl, k5⟩;have b5 := k5.obj (fun e => e) B4.out;have f0 : w5.cell? ⟨w3.heap.size, 0, none⟩ = some (.string ra) := ze b5 rfl;have f1 : w5.cell? ⟨w3.heap.size, 1, none⟩ = some (.string rb) := ze b5 rfl;have f2 : w5.cell? ⟨w.heap.size, 0, none⟩ = some (.int .i64 (i : Int)) := zi k5 (fun e => e) (zi (zh (fun _ => False) w3 _) (fun e => e) e0);have K5 := zb (K4.out.trans k5);clear b5 k5 SUB e0 e1 d0' d1';go_wp2_with fail;(with_reducible refine (SW.out _).mono ?_);rintro e w6 ⟨rfl, k6⟩;go_wp2;go_ret2;exact ⟨by rw [RES.out]; rfl, K5.out.trans k6⟩
     ·have RES := zb (NP.out (fun q => hcut (by have := q.2.2; simp only [Int.toNat_natCast, Zo] at this; rwa [hal] at this)))
      have n1 : ((bar ((u.data.toList.drop (2 * i)).take (2 * zt ra.data.toList))).toList != ra.toList) = true := by
       rw [zmb, yI, decide_eq_false hcut]; rfl
      have n2 : ((bar ((u.data.toList.drop (2 * i)).take (2 * zt ra.data.toList))).toList == ra.toList) = false := by
       rw [zhY, yI, decide_eq_false hcut]
      have n3 : ¬ (bar ((u.data.toList.drop (2 * i)).take (2 * zt ra.data.toList))).toList = ra.toList := by
       rw [beq_eq_false_iff_ne] at n2; exact n2
      clear hcut hal hue hae m3;generalize zt ra.data.toList = M at *;generalize bar ((u.data.toList.drop (2 * i)).take (2 * M)) = cu at *;go_wp2_with fail;(with_reducible refine SUB.out.mono ?_);rintro e w5 ⟨rfl, k5⟩;have b5 := k5.obj (fun e => e) B4.out;have f0 : w5.cell? ⟨w3.heap.size, 0, none⟩ = some (.string ra) := ze b5 rfl;have K5 := zb (K4.out.trans k5);clear b5 k5 SUB e0 e1 d0' d1';go_wp2;go_ret2;exact ⟨by rw [RES.out]; rfl, K5.out⟩
    ·rw [show znA u xa (zt ra.data.toList) = .tuple #[.string ⟨#[]⟩, .int .i64 5] from if_neg hok] at SUB
     have RES := zb (NP.out (fun q => hok ⟨q.1, by have := q.2.1; simp only [Zo] at this; exact this⟩));clear hok hue hae m3;generalize zt ra.data.toList = M at *;go_wp2_with fail;(with_reducible refine SUB.out.mono ?_);rintro e w5 ⟨rfl, k5⟩;have K5 := zb (K4.out.trans k5);go_wp2;go_ret2;exact ⟨by rw [RES.out]; rfl, K5.out⟩
theorem zm0 (R : List Rul) (u : Wd) : zbd R u (zt u) 0 = ZB R u := by
 unfold zbd ZB zgc;simp [zhQ]
theorem ziu (R : List Rul) (b i : Nat) (r : List Ent) (u : Wd) : zhD R b i r u (zt u) 0 = ZD b i (ZB R u) r := by unfold zhD; rw [zm0]
theorem ziB (R : List Rul) (u : Wd) {a k : Nat} (ha : a < zt u) (hk : k <= R.length) : zbd R u a k <+: ZB R u := by
 unfold zbd ZB zgc;refine List.IsPrefix.map _ ?_
 have h1 : YX (yL R) u a ++ (zhQ (yL R) u a k).map (fun t => (a, t)) <+: YX (yL R) u (a + 1) := by
  unfold YX;rw [List.range_succ, List.flatMap_append];refine (List.prefix_append_right_inj _).2 ?_;rw [List.flatMap_singleton];refine List.IsPrefix.map _ ?_;unfold zhQ zbU;rw [yh];refine List.IsPrefix.filter _ ?_;rw [List.prefix_iff_eq_take, List.take_range, List.length_range]
  congr 1
  omega
 refine h1.trans ?_;obtain ⟨d, hd⟩ : ∃ d, zt u = a + 1 + d := ⟨zt u - (a + 1), by omega⟩;rw [hd];unfold YX;rw [show List.range (a + 1 + d) = List.range (a + 1) ++ (List.range d).map (a + 1 + ·) from List.range_add .., List.flatMap_append];exact List.prefix_append _ _
theorem zdw (r : List Ent) (e : Ent) : zcT (r ++ [e]) = zcT r ++ [.int .i64 e.2.1] := by unfold zcT; rw [List.map_append]; rfl
theorem zj2 {w : World} {base base' : Nat} {e t : TypeId} {size size' n n' k : Nat} {xs xs' : List Value} {v v' : Value} (h : w.ownsRow base e size v n xs) (h' : w.ownsRow base' t size' v' n' xs') (hk : v.ownBlock = some k) (hk' : v'.ownBlock = some k) : t = e := by
 obtain ⟨cs', h2⟩ := zz h' hk';exact zdX h hk h2
section
variable {w w' : World} {base b : Nat} {lv fv bv v : Value} {r1 r2 r3 : List Ent}
theorem znw.chg {S : Nat -> Prop} (h : znw w base b lv fv bv r1 r2 r3) (hc : Chg S w w') (hs : ∀ k, base <= k -> ¬ S k) : znw w' base b lv fv bv r1 r2 r3 :=
 ⟨hc.obj (hs b h.bb) h.hb, zm h.hl hc (fun k hk => hs k (h.hl.lt k hk).1), zm h.hf hc (fun k hk => hs k (h.hf.lt k hk).1), zm h.hs hc (fun k hk => hs k (h.hs.lt k hk).1), h.bb⟩
theorem znw.stepF {e : Ent} (h : znw w base b lv fv bv r1 r2 r3) (hg : w.grownBy w' fv.ownBlock) (ho : w'.ownsRow base 3 1 v (r2.length + 1) (zcT r2 ++ [.int .i64 e.2.1])) : znw (w'.setCell ⟨b, 1, none⟩ v) base b lv v bv r1 (r2 ++ [e]) r3 := by
 have hb' := (Chg.of_grown hg).obj (fun q => by have := zdX h.hf q h.hb; cases this) h.hb;have hc : Chg (· = b) w' (w'.setCell ⟨b, 1, none⟩ v) := (Chg.refl (· = b) w').setCell (p := ⟨b, 1, none⟩) (fun _ => rfl) v;refine ⟨zr hb' v, ?_, ?_, ?_, h.bb⟩
 ·have := zm h.hl (Chg.of_grown hg) (fun k hk q => by have := zj2 h.hf h.hl q hk; cases this)
  exact zm this hc (fun k hk q => by subst q; have := zdX this hk hb'; cases this)
 ·rw [List.length_append, List.length_singleton, zdw]
  exact zm ho hc (fun k hk q => by subst q; have := zdX ho hk hb'; cases this)
 ·have := zm h.hs (Chg.of_grown hg) (fun k hk q => by have := zj2 h.hf h.hs q hk; cases this)
  exact zm this hc (fun k hk q => by subst q; have := zdX this hk hb'; cases this)
end
theorem znx.next {w W W0 : World} {R : List Rul} {s : Wd} {bnd b i : Nat} {r0 r : List Ent} (h0 : znx w R s bnd b i r0 W0) (hi : i < r0.length) (h : FIn w R bnd b i r0 (zt (Zr r0 i)) 0 r W) : znx w R s bnd b (i + 1) r W := by
 have hp := h.pre;rw [ziu] at hp;obtain ⟨q1, q2, ⟨t, rfl⟩, q4, _⟩ := Xr hp h0.nd h0.len;have h1 := h0.len;refine ⟨h.row, ?_, by omega, q2, q1, fun u hu => ?_, h.chg⟩
 ·rw [h0.goes, show bnd - i = (bnd - (i + 1)) + 1 by omega, YW, if_pos hi, hp]; rfl
 ·rcases q4 u hu with q | q
  ·exact h0.may u q
  ·exact (zek (h0.may _ (zap hi)) q).1
theorem znx.over {w W0 : World} {R : List Rul} {s : Wd} {bnd b i a k : Nat} {r0 : List Ent} (h0 : znx w R s bnd b i r0 W0) (hi : i < r0.length) (ha : a < zt (Zr r0 i)) (hk : k <= R.length) (h : zhD R bnd i r0 (Zr r0 i) a k = none) : zbO R s bnd = none := by
 have hn := Xb (ziB R (Zr r0 i) ha hk) h;have h1 := h0.len;rw [h0.goes, show bnd - i = (bnd - (i + 1)) + 1 by omega, YW, if_pos hi, hn]; rfl
theorem znx.done {w W0 : World} {R : List Rul} {s : Wd} {bnd b i : Nat} {r0 : List Ent} (h0 : znx w R s bnd b i r0 W0) (hi : ¬ i < r0.length) : zbO R s bnd = some r0 := by
 rw [h0.goes];cases hf : bnd - i with
 | zero => rfl
 | succ f => rw [YW, if_neg hi]
end Go.Proofs.YthdfplafihmejaaGreat

namespace Go.Proofs.YthdfplafihmejaaGreat
open Go.RowKit Go.Maps
theorem yw.imp {w : World} {v : Value} {G G' : Nat -> Prop} {L : List (Int × Int)} (h : yw w v G L) (hg : ∀ k, G k -> G' k) : yw w v G' L := by
  obtain ⟨la, cap, h1, h2, h3⟩ := h;exact ⟨la, cap, h1, h2, fun j r hj => by obtain ⟨lb, lo, q1, q2, q3⟩ := h3 j r hj; exact ⟨lb, lo, q1, hg _ q2, q3⟩⟩
theorem zM.below {w w1 : World} {v : Value} {R : List zA} {B : Nat} (h : zM w v (· < w.heap.size) R) (k : Chg (fun _ => False) w w1) (hB : w.heap.size <= B) : zM w1 v (· < B) R :=
  (h.chg k (fun _ _ e => e)).imp (fun _ hx => Nat.lt_of_lt_of_le hx hB)
theorem zod.len {R : List zA} {C : List zn} {b : Int} {s : ASt} (h : zod R C b s) : s.order.length <= C.length := Yi h.inv.nd h.inv.lt
end Go.Proofs.YthdfplafihmejaaGreat
