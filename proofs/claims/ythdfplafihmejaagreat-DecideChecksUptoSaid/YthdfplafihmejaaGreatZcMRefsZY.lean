/-
  Base: what else. Kit2: what else. RPlain: what else. SOrd: what else. MRefs: what else. Tree: what else. BaseZ: what else. Kit2Z: what else. RPlainZ: what else. MRefsZ: what else.
-/
import Derived.Test.YthdfplafihmejaaGreatZcKit2
import Derived.Test.YthdfplafihmejaaGreatZcRPlain
import Derived.Test.YthdfplafihmejaaGreatZcCCert1
namespace Go.Proofs.YthdfplafihmejaaGreat
open Go.RowKit Go.Maps
theorem zlN {a b c : Wd} (h : ZF a c = true) (k : ZF a b = false) : ZF b c = true := by
 cases q : ZF b a with
 | true => exact yB q h
 | false => rw [<- xB k q]; exact h
theorem ziH {last : Option ByteArray} {l : List ByteArray} {k : Nat} {x : ByteArray} (hx : l[k]? = some x) : zbS last (l.take (k + 1)) = zgN last (zbS last (l.take k)) x := by
 unfold zbS;rw [List.take_add_one, hx, List.foldl_append]; rfl
theorem zgT {last : Option ByteArray} : ∀ (l : List ByteArray) (best : Option ByteArray),
  (∀ y, l.foldl (zgN last) best = some y -> (best = some y ∨ (y ∈ l ∧ zam last y = true)) ∧ (∀ x ∈ l, zam last x = true -> yK x y = false) ∧ ∀ z, best = some z -> yK z y = false) ∧
  (l.foldl (zgN last) best = none -> best = none ∧ ∀ x ∈ l, zam last x = false)
 | [], best => ⟨fun y h => ⟨.inl h, fun _ hx => (List.not_mem_nil hx).elim, fun z hz => by rw [show best = some y from h] at hz; cases hz; exact yC _⟩, fun h => ⟨h, fun _ hx => (List.not_mem_nil hx).elim⟩⟩
 | a :: l, best => by
  rw [List.foldl_cons];obtain ⟨h1, h2⟩ := zgT l (zgN last best a);by_cases hp : (zam last a && zhd best a) = true
  ·have e : zgN last best a = some a := if_pos hp
   rw [Bool.and_eq_true] at hp;refine ⟨fun y hy => ?_, fun hn => ?_⟩
   ·obtain ⟨q1, q2, q3⟩ := h1 y hy
    have hay := q3 a e;refine ⟨?_, fun x hx hax => ?_, fun z hz => ?_⟩
    ·rcases q1 with q | q
     ·rw [e] at q; cases q
      exact .inr ⟨List.mem_cons_self, hp.1⟩
     ·exact .inr ⟨List.mem_cons_of_mem _ q.1, q.2⟩
    ·rcases List.mem_cons.1 hx with rfl | hx
     ·exact hay
     ·exact q2 x hx hax
    ·subst hz
     have hb : yK a z = true := hp.2;rw [<- Bool.not_eq_true];intro q;rw [show yK a y = true from yB hb q] at hay;cases hay
   ·have := (h2 hn).1
    rw [e] at this; cases this
  ·have e : zgN last best a = best := if_neg hp
   rw [e] at h1 h2 ⊢;refine ⟨fun y hy => ?_, fun hn => ?_⟩
   ·obtain ⟨q1, q2, q3⟩ := h1 y hy
    refine ⟨?_, fun x hx hax => ?_, q3⟩
    ·rcases q1 with q | q
     ·exact .inl q
     ·exact .inr ⟨List.mem_cons_of_mem _ q.1, q.2⟩
    ·rcases List.mem_cons.1 hx with rfl | hx
     ·cases best with
      | none => exact (hp (by rw [hax]; rfl)).elim
      | some z =>
       have hz : yK x z = false := by
        rw [<- Bool.not_eq_true]; intro q;exact hp (by rw [hax]; exact q)
       have hzy := q3 z rfl;rw [<- Bool.not_eq_true]; intro q;rw [show yK z y = true from zlN q hz] at hzy;cases hzy
     ·exact q2 x hx hax
   ·obtain ⟨q1, q2⟩ := h2 hn
    refine ⟨q1, fun x hx => ?_⟩;rcases List.mem_cons.1 hx with rfl | hx
    ·subst q1
     rw [<- Bool.not_eq_true]; intro q;exact hp (by rw [q]; rfl)
    ·exact q2 x hx
theorem zix (l : List ByteArray) : YY l [] := ⟨fun _ hx => (List.not_mem_nil hx).elim, List.Pairwise.nil, fun _ _ => .inr rfl⟩
theorem YY.nodup {l out : List ByteArray} (h : YY l out) : out.Nodup := h.srt.imp (fun {a b} q e => by subst e; rw [show yK a a = false from yC _] at q; cases q)
theorem YY.le {l out : List ByteArray} (h : YY l out) : out.length <= l.length := zaw h.nodup h.sub
theorem zkX {out : List ByteArray} {y : ByteArray} (hs : out.Pairwise fun a b => yK a b = true) (h : zam out.getLast? y = true) : ∀ x ∈ out, yK x y = true := by
 rcases List.eq_nil_or_concat out with rfl | ⟨i, z, rfl⟩
 ·intro x hx; cases hx
 ·rw [List.concat_eq_append] at *
  rw [List.getLast?_append] at h;have hz : yK z y = true := h;intro x hx;rcases List.mem_append.1 hx with q | q
  ·exact yB ((List.pairwise_append.1 hs).2.2 x q z (by simp)) hz
  ·rw [List.mem_singleton] at q; subst q; exact hz
theorem YY.next {l out : List ByteArray} (h : YY l out) {y : ByteArray} (hn : zbS out.getLast? l = some y) : YY l (out ++ [y]) := by
 obtain ⟨q1, q2, _⟩ := (zgT l none).1 y hn
 have q : y ∈ l ∧ zam out.getLast? y = true := by
  rcases q1 with q | q
  ·cases q
  ·exact q
 have ha := zkX h.srt q.2;refine ⟨fun x hx => ?_, ?_, fun x hx => ?_⟩
 ·rcases List.mem_append.1 hx with e | e
  ·exact h.sub x e
  ·rw [List.mem_singleton] at e; rw [e]; exact q.1
 ·rw [List.pairwise_append]
  exact ⟨h.srt, List.pairwise_singleton _ _, fun x hx z hz => by rw [List.mem_singleton] at hz; rw [hz]; exact ha x hx⟩
 ·rw [List.getLast?_append]
  rcases h.rest x hx with e | e
  ·exact .inl (List.mem_append_left _ e)
  ·have hxy := q2 x hx e
   cases hyx : yK y x with
   | true => exact .inr hyx
   | false =>
    have : x = y := by
     have := xB hxy hyx;cases x; cases y;simp only [ByteArray.mk.injEq];exact Array.toList_inj.1 this
    rw [this];exact .inl (by simp)
theorem YY.done {l out : List ByteArray} (h : YY l out) (hn : zbS out.getLast? l = none) : ∀ x ∈ l, x ∈ out := by
 intro x hx;rcases h.rest x hx with e | e
 ·exact e
 ·rw [((zgT l none).2 hn).2 x hx] at e; cases e
theorem YY.more {l out : List ByteArray} (h : YY l out) {y : ByteArray} (hn : zbS out.getLast? l = some y) : out.length < l.length := by
 have := (h.next hn).le;rw [List.length_append, List.length_singleton] at this;omega
theorem zhk (l : List Nat) (a : Nat) : Zk (l ++ [a]) = Zk l ++ [.int .u16 (a : Int)] := by unfold Zk; rw [List.map_append]; rfl
theorem zmK (x y : Nat) (hx : x < 256) (hy : y < 256) : IntKind.u16.wrap (IntKind.u16.wrap (IntKind.u16.wrap (x : Int) * 256) + IntKind.u16.wrap (y : Int)) = ((x * 256 + y : Nat) : Int) := by
 have e1 : IntKind.u16.wrap (x : Int) = (x : Int) := by show (x : Int) % 65536 = _; omega
 have e2 : IntKind.u16.wrap (y : Int) = (y : Int) := by show (y : Int) % 65536 = _; omega
 have e3 : IntKind.u16.wrap ((x : Int) * 256) = (x : Int) * 256 := by show ((x : Int) * 256) % 65536 = _; omega
 rw [e1, e2, e3];show ((x : Int) * 256 + (y : Int)) % 65536 = _;omega
theorem zfZ (s : ByteArray) (k : Nat) (hk : 2 * k + 1 < s.size) (h0 : 2 * k < s.size) : zD s.data.toList k = (s[2 * k]'h0).toNat * 256 + (s[2 * k + 1]'hk).toNat := by
 have hsl := zv s;unfold zD;rw [List.getD_eq_getElem?_getD, List.getElem?_eq_getElem (by omega), List.getD_eq_getElem?_getD, List.getElem?_eq_getElem (by omega)]; rfl
set_option maxHeartbeats 1000000 in
set_option maxRecDepth 100000 in
theorem YA (w : World) (s : ByteArray) (hs : s.size <= 140737488355328) :
  Calls Tryz.prog 82 #[.string s] w fun e w' => ∃ v, e = .returned v ∧ w'.ownsRow w.heap.size 62 1 v (zI s.data.toList).length (Zk (zI s.data.toList)) ∧ Chg (fun _ => False) w w' := by
 have hsl := zv s;have HN := zb (show zt s.data.toList = s.size / 2 by unfold zt; rw [hsl]);have TK := zb (fun k hk => zak s.data.toList (i := k) hk);have AL := zb (zJ s.data.toList);have AV := zb (fun k hk h0 => zfZ s k hk h0);clear hsl;go_enter Tryz.func82, Tryz.ntmps82;go_wp2;go_loopw [3, 4] (fun lv iv wr => ∃ k : Nat, 2 * k <= s.size ∧ iv = .int .i64 ((2 * k : Nat) : Int) ∧ wr.ownsRow w.heap.size 62 1 lv k (Zk ((zI s.data.toList).take k)) ∧ Chg (fun _ => False) w wr) (fun _ iv _ => s.size - (intOf iv).toNat)
 case atStart => exact ⟨0, by omega, rfl, ZK _ _ _ _ (Nat.le_refl _), zh _ _ _⟩
 case round =>
  obtain ⟨k, hk, rfl, ho, hc⟩ := hrel;have HO := zb ho;have HC := zb hc;have hsz := hc.size;clear ho hc;obtain ⟨i0, hi0⟩ : ∃ i0 : Nat, 2 * k = i0 := ⟨_, rfl⟩;by_cases hlt : i0 + 1 < s.size
  ·have TK1 := zb (TK.out k (by rw [HN.out]; omega))
   have hav := AV.out k (by omega) (by omega);obtain ⟨x, hx, qx⟩ : ∃ x, x < 256 ∧ (s[i0]'(Nat.lt_of_succ_lt hlt)).toNat = x := ⟨_, UInt8.toNat_lt _, rfl⟩;obtain ⟨y, hy, qy⟩ : ∃ y, y < 256 ∧ (s[i0 + 1]'hlt).toNat = y := ⟨_, UInt8.toNat_lt _, rfl⟩;have HAV := zb (show zD s.data.toList k = x * 256 + y by rw [hav, <- qx, <- qy]; simp only [hi0]);have HI0 := zb hi0;rw [hi0];clear hav hi0;have SUM := zb (zmK x y hx hy);have a2 : IntKind.i64.wrap ((i0 : Int) + 1) = (i0 : Int) + 1 := by rw [IntKind.wrap_i64]; omega
   have b1 : 0 <= (i0 : Int) := by omega
   have b2 : (i0 : Int) < (s.size : Int) := by omega
   have b3 : 0 <= (i0 : Int) + 1 := by omega
   have b4 : (i0 : Int) + 1 < (s.size : Int) := by omega
   have t2 : ((i0 : Int) + 1).toNat = i0 + 1 := by omega
   go_wp2;refine zB (N := 28) [.rd [0, 1, 2, 3, 4, 5, 6, 7, 8, 9, 10, 11], .ef 12, .ef 13, .rd [14]] (fun _ => True) (by kernel_rfl) (by kernel_rfl) (by kernel_rfl) (by kernel_rfl) (Nat.le_of_ble_eq_true rfl) trivial ?_;refine zH (A := ?A1) ?h1 ?h2
   case h1 =>
    intro w' hS K hK;clear hS;simp only [zT, List.filterMap_cons, List.filterMap_nil, List.getElem?_toArray, List.getElem?_cons_succ, List.getElem?_cons_zero]
    repeat still_step
    refine wpStill_nil ?_;exact hK
   rw [SUM.out, <- HAV.out];clear a2 b1 b2 b3 b4 t2;have hk2 : (k + 1) * 2 <= 140737488355328 := by have := HI0.out; omega
   generalize zD s.data.toList k = ak at *;refine zP rfl ?_;go_wp2_with fail;refine ⟨trivial, ?_⟩;refine zP rfl ?_;refine ZI rfl (.tmp 13) (.tmp 25) 125 rfl 62 1 2 Tryz.underlying125 Tryz.elemAtom w.heap.size _ _ _ rfl ((zm HO.out (zK (fun _ => False) wr) (fun _ _ e => e)).alloc _) _ [.int .u16 (ak : Int)] 62 (0, 0) rfl (zf _ _) rfl (by intro u hu; simp at hu; subst hu; rfl) (by omega) (by unfold maxLen; omega) (by simp; omega) ?_;intro v5 w5 o5 g5;have C5 := zb (((HC.out.drew).alloc (.cells #[.int .u16 (ak : Int)] 62)).own ((zm HO.out (zK (fun _ => False) wr) (fun _ _ e => e)).alloc _) (Chg.of_grown g5));rw [<- zhk, <- TK1.out] at o5;have O5 := zb o5;clear o5 g5;go_wp2_with fail;refine ⟨trivial, ?_⟩;refine zH (A := ?A2) ?h3 ?h4
   case h3 =>
    intro w' hS K hK;clear hS;simp only [zT, List.filterMap_cons, List.filterMap_nil, List.getElem?_toArray, List.getElem?_cons_succ, List.getElem?_cons_zero]
    repeat still_step
    refine wpStill_nil ?_;exact hK
   refine Zg ?_;go_wp2;go_roundw
   case rel => exact ⟨k + 1, by have := HI0.out; omega, by rw [show 2 * (k + 1) = i0 + 2 from by have := HI0.out; omega]; go_num, O5.out, C5.out⟩
   case measure => simp [intOf]; omega
  ·have HT := zb (show (zI s.data.toList).take k = zI s.data.toList from List.take_of_length_le (by rw [AL.out, HN.out]; omega))
   have HKL := zb (show k = (zI s.data.toList).length by rw [AL.out, HN.out]; omega);rw [hi0];have hge : (s.size : Int) <= (i0 : Int) + 1 := by omega
   have hd1 : decide ((i0 : Int) + 1 < (s.size : Int)) = false := by rw [decide_eq_false_iff_not]; omega
   have hd2 : decide (i0 + 1 < s.size) = false := by rw [decide_eq_false_iff_not]; omega
   have hi1 : i0 <= 140737488355328 := by omega
   clear hi0;go_wp2;go_ret;refine ⟨_, rfl, ?_, HC.out⟩;have := HO.out;rw [HT.out, HKL.out] at this;exact this
set_option maxRecDepth 100000 in
theorem zat (w : World) (s : ByteArray) (hs : s.size <= 140737488355328) :
  Calls Tryz.prog 52 #[.string s] w fun e w' => e = .returned (.bool (Zm s.data.toList)) ∧ Chg (fun _ => False) w w' := by
 have hsl := zv s;have ATO := zb (YA w s hs);have AL := zb (zJ s.data.toList);have AG := zb (show ∀ i, i < zt s.data.toList -> (Zk (zI s.data.toList))[i]? = some (.int .u16 (zD s.data.toList i : Nat)) from fun i hi => by unfold Zk; rw [List.getElem?_map, ZW _ hi]; rfl);have MI := zb (Zc s.data.toList);rw [hsl] at MI;have hn2 : zt s.data.toList <= 140737488355328 := by unfold zt; omega
 have MN := zb (show ∀ i, i < zt s.data.toList -> zD s.data.toList i = 0 -> Zm s.data.toList = false from fun i hi h => zhL hi h);have ALT := zb (fun k => yu s.data.toList k);rw [AL.out] at ATO;clear hsl;generalize zt s.data.toList = n at *;go_enter Tryz.func52, Tryz.ntmps52;go_wp2_with fail;refine (ATO.out).mono ?_;rintro e w1 ⟨v1, rfl, o1, c1⟩;obtain ⟨ra, rc, rfl, hrl, hcl⟩ := xW o1;have HCL := zb hcl;have C1 := zb c1;unfold maxLen at hrl;clear o1 c1 hcl;go_wp2;go_loop [4] (fun iv => ∃ k : Nat, k <= n ∧ iv = .int .i64 k ∧ Hid (∀ i, i < k -> zD s.data.toList i ≠ 0)) (fun iv => n - (intOf iv).toNat)
 case atStart => exact ⟨0, by omega, rfl, zb (fun i hi => by omega)⟩
 case round =>
  obtain ⟨k, hk, rfl, HZ⟩ := hrel;by_cases hlt : k < n
  ·obtain ⟨g, rfl, _, cx⟩ := HCL.out k _ (AG.out k hlt)
   have hal := ALT.out k;by_cases hz : zD s.data.toList k = 0
   ·have HF := zb (MN.out k hlt hz)
    rw [hz] at cx;clear hz;go_wp2;go_ret;exact ⟨by rw [HF.out]; rfl, C1.out⟩
   ·have hz1 : (((zD s.data.toList k : Nat) : Int) == 0) = false := by rw [beq_eq_false_iff_ne]; omega
    have HZ2 := zb (show ∀ i, i < k + 1 -> zD s.data.toList i ≠ 0 from fun i hi => by
     rcases Nat.lt_or_ge i k with q | q
     ·exact HZ.out i q
     ·obtain rfl : i = k := by omega
      exact hz)
    clear hz;generalize zD s.data.toList k = ak at *;go_wp2;go_round
    case rel => exact ⟨k + 1, by omega, by go_num, HZ2⟩
    case measure => simp [intOf]; omega
  ·obtain rfl : k = n := by omega
   have MB := zb (show Zm s.data.toList = (decide (s.size % 2 = 0) && decide (1 <= k) && decide (k <= 8)) by
    rw [Bool.eq_iff_iff, MI.out];simp only [Bool.and_eq_true, decide_eq_true_eq];constructor
    ·rintro ⟨h1, h2, h3, _⟩; exact ⟨⟨h1, h2⟩, h3⟩
    ·rintro ⟨⟨h1, h2⟩, h3⟩; exact ⟨h1, h2, h3, HZ.out⟩)
   have hkd : decide (k < k) = false := by simp
   clear HCL AG MN MI HZ hlt;by_cases h1 : s.size % 2 = 0
   ·have g1 : ((s.size : Int) % 2 == 0) = true := by rw [beq_iff_eq]; omega
    by_cases h2 : 1 <= k
    ·have g2 : decide (1 <= (k : Int)) = true := by rw [decide_eq_true_eq]; omega
     by_cases h3 : k <= 8
     ·have g3 : decide ((k : Int) <= 8) = true := by rw [decide_eq_true_eq]; omega
      have R := zb (show Zm s.data.toList = true by rw [MB.out]; simp [h1, h2, h3]);clear h1 MB;go_wp2;go_ret;exact ⟨by rw [R.out]; rfl, C1.out⟩
     ·have g3 : decide ((k : Int) <= 8) = false := by rw [decide_eq_false_iff_not]; omega
      have R := zb (show Zm s.data.toList = false by rw [MB.out]; simp [h3]);clear h1 MB;go_wp2;go_ret;exact ⟨by rw [R.out]; rfl, C1.out⟩
    ·have g2 : decide (1 <= (k : Int)) = false := by rw [decide_eq_false_iff_not]; omega
     have R := zb (show Zm s.data.toList = false by rw [MB.out]; simp [h2]);clear h1 MB;go_wp2;go_ret;exact ⟨by rw [R.out]; rfl, C1.out⟩
   ·have g1 : ((s.size : Int) % 2 == 0) = false := by rw [beq_eq_false_iff_ne]; omega
    have R := zb (show Zm s.data.toList = false by rw [MB.out]; simp [h1]);clear h1 MB;go_wp2;go_ret;exact ⟨by rw [R.out]; rfl, C1.out⟩
open Classical in
section
end
theorem zaQ {P : Program} {ops : Array Oper} {w : World} {Q : Exit -> Act -> World -> Prop} {a : Act} {o : Oper} {rest : List Oper} (h : Region.wanted o (yielded ops a.tmps) = false) (h2 : wpList P ops Q rest (a.put o.dst undef) w) : wpList P ops Q (o :: rest) a w := by
 unfold wpList;rw [if_neg (by rw [h]; decide)];exact h2
end Go.Proofs.YthdfplafihmejaaGreat

namespace Go.Proofs.YthdfplafihmejaaGreat
open Go.RowKit
theorem zaE.lt {w : World} {g : Nat} {t : TypeId} {xs : List Value} (h : zaE w g t xs) : g < w.heap.size := by
  obtain ⟨rest, h⟩ := h;exact zq h
theorem zow.cell {w : World} {base : Nat} {e : TypeId} {v : Value} {xs : List Value} (h : zow w base e v xs) : ∃ g cap, v = .slice (some ⟨g, 0, none⟩) xs.length cap ∧ base <= g ∧ xs.length <= cap ∧ cap <= maxLen ∧ ∀ j u, xs[j]? = some u -> w.cell? ⟨g, j, none⟩ = some u := by
  obtain ⟨g, cap, cur, fz, rfl, hb, hg, _, h1, h2, h3, h4⟩ := h;refine ⟨g, cap, rfl, hb, h1, h2, fun j u hj => ze hg ?_⟩;rw [<- h4, List.getElem?_take] at hj;split at hj
  · simpa using hj
  · cases hj
theorem zaE.some {w : World} {g : Nat} {t : TypeId} {xs : List Value} (h : zaE w g t xs) {i : Nat} (hi : i < xs.length) : ∃ v, w.cell? ⟨g, i, none⟩ = some v := ⟨_, h.cell (List.getElem?_eq_getElem hi)⟩
end Go.Proofs.YthdfplafihmejaaGreat

namespace Go.Proofs.YthdfplafihmejaaGreat
open Go.RowKit Go.Maps
theorem zla.chg {S : Nat -> Prop} {w w' : World} {v : Value} {G : Nat -> Prop} {l : List (Nat × Nat)} (h : zla w v G l) (hc : Chg S w w') (hs : ∀ k, G k -> ¬ S k) : zla w' v G l := by
  obtain ⟨la, cap, h1, h2, h3⟩ := h;exact ⟨la, cap, h1, h2, fun j x hj => by obtain ⟨g, o, q1, q2, q3, q4⟩ := h3 j x hj; exact ⟨g, o, q1, q2, zi hc (hs g q2) q3, zi hc (hs g q2) q4⟩⟩
open Classical in
section
variable {P : Program} {k e : TypeId} {w : World} {b n : Nat} {f : Lit -> Option (DataW Unit)}
theorem Yv.mono {n' : Nat} (h : Yv P k e w b n f) (hn : n <= n') : Yv P k e w b n' f := by
  obtain ⟨D, h, q⟩ := h;exact ⟨D, h.mono hn, q⟩
theorem Yv.look {t : TypeId} (h : Yv P k e w b n f) (K : Keyed P k) (ht : P.underlying t = some (.map k e)) {z : Value} (hz : (zeroValue e).run P w = .ok z w) {zd : DataW Unit} {zp : List MemPlace} (hzd : plainElem P e z = some (zd, zp))
    {key : Value} {kl : Lit} (hkey : keyOf P k key = some kl) : ∃ v ps, (Instr.lookup t (.map (some b)) key false).run P w = .ok v w ∧ plainElem P e v = some ((f kl).getD zd, ps) := by
  obtain ⟨D, h, q⟩ := h;obtain ⟨v, ps, h1, h2⟩ := h.lookup K ht hz hzd hkey;exact ⟨v, ps, h1, by rw [h2, Yv.at q]⟩
end
end Go.Proofs.YthdfplafihmejaaGreat
