/-
  Package reach: Path, Walk; what Path tells.
-/
import Derived.Test.YthdfplafihmejaaGreatZcCLike
import Derived.Shelf.SlicesQ.Reverse
import Derived.Ground.SlgnProg
namespace Go.Proofs.YthdfplafihmejaaGreat
open Go.RowKit Go.Maps Go.Shelf Go.Lib Go.Sort
shelf_lay_g SlLaysE0.n35 Slgn 35 at Tryz 139 as Tryz.reverseStep
def za3 (x : Nat × Nat) : List Value := [.int .i64 (x.1 : Int), .int .i64 (x.2 : Int)]
theorem ziF {w : World} {base : Nat} {e : TypeId} {size n cap g : Nat} {xs : List Value} (h : w.ownsRow base e size (.slice (some ⟨g, 0, none⟩) n cap) n xs) (F : Array Value) (hF : F.size = n * size) (q : Nat) :
  (putRow id (Sort.ahead w q) g 0 F).ownsRow base e size (.slice (some ⟨g, 0, none⟩) n cap) n F.toList ∧ Chg (· = g) w (putRow id (Sort.ahead w q) g 0 F) := by
 obtain ⟨h1, ⟨h2, _⟩ | ⟨g', cap', cur, h2, hb, hg, q1, q2, q3, q4⟩⟩ := h
 ·simp at h2
 ·simp only [Value.slice.injEq, Option.some.injEq, Addr.mk.injEq, and_true, true_and] at h2
  obtain ⟨rfl, rfl⟩ := h2;refine ⟨⟨by simpa using hF, .inr ⟨g, cap, putCells id 0 F cur, rfl, hb, ?_, q1, q2, by simp [putCells, q3], ?_⟩⟩, ⟨rfl, rfl, rfl, by simp [Sort.ahead], fun k hk hne => ?_⟩⟩
  ·show (w.heap.modify g (onCells (putCells id 0 F)))[g]? = _
   rw [Array.getElem?_modify, if_pos rfl, hg];rfl
  ·apply List.ext_getElem?
   intro t;have hle : n * size <= cap * size := Nat.mul_le_mul_right _ q1;by_cases ht : t < n * size
   ·rw [List.getElem?_take_of_lt ht, Array.getElem?_toList, Array.getElem?_toList]
    unfold putCells;rw [Array.getElem?_mapIdx, Array.getElem?_eq_getElem (by omega), Array.getElem?_eq_getElem (show t < F.size by omega)];simp [show t < F.size by omega]
   ·rw [List.getElem?_eq_none (by rw [List.length_take]; omega), List.getElem?_eq_none (by simp; omega)]
  ·show (w.heap.modify g (onCells (putCells id 0 F)))[k]? = _
   rw [Array.getElem?_modify, if_neg (fun e => hne e.symm)]
theorem zc9 (l : List (Nat × Nat)) : (flatK za3 2 l.toArray).toList = yt l := by
 apply List.ext_getElem?;intro t;have hl := zeF l;by_cases ht : t < 2 * l.length
 ·have hk : t / 2 < l.length := by omega
  have hc := zbV l (t / 2) _ (List.getElem?_eq_getElem hk);rw [Array.getElem?_toList, Array.getElem?_eq_getElem (by simp; omega)]
  have e1 : (flatK za3 2 l.toArray)[t]'(by simp; omega) = (za3 l[t / 2])[t % 2]! := by
   simp [flatK, hk]
  rw [e1];generalize l[t / 2] = c at *;rcases Nat.mod_two_eq_zero_or_one t with h | h
  ·rw [h]
   have := hc.1;rw [show 2 * (t / 2) = t by omega] at this;rw [this]; rfl
  ·rw [h]
   have := hc.2;rw [show 2 * (t / 2) + 1 = t by omega] at this;rw [this]; rfl
 ·rw [List.getElem?_eq_none (by simp; omega), List.getElem?_eq_none (by omega)]
theorem zeq (w : World) (base g cap : Nat) (l : List (Nat × Nat)) (h : w.ownsRow base 153 2 (.slice (some ⟨g, 0, none⟩) l.length cap) l.length (yt l)) (hl : l.length <= 1000000) :
  Calls Tryz.prog 139 #[.slice (some ⟨g, 0, none⟩) l.length cap] w fun e w' => e = .returned (.tuple #[]) ∧ w'.ownsRow base 153 2 (.slice (some ⟨g, 0, none⟩) l.length cap) l.length (yt l.reverse) ∧ Chg (· = g) w w' := by
 have hH : HoldsK za3 2 w g 0 l.toArray := by
  intro j hj;rw [size_flatK] at hj;simp only [List.size_toArray] at hj;refine ⟨?_, h.frozenAt _⟩;rw [Nat.zero_add, h.cellAt j (by omega), <- zc9, Array.getElem?_toList, Array.getElem?_eq_getElem (by simp; omega), getElem!_pos _ _ (by simp; omega)];rfl
 have := AnyQ.slices_Reverse Tryz.reverseStep 2 Tryz.isAgg153 Tryz.sizeOf153 za3 (fun _ => rfl) (fun x v hv => by simp [za3] at hv; rcases hv with rfl | rfl <;> rfl) g 0 cap l.toArray w hH (by simp; omega);rw [List.size_toArray] at this;refine this.mono fun e w' ⟨he, n, hw⟩ => ?_;subst hw;obtain ⟨q1, q2⟩ := ziF h (flatK za3 2 l.toArray.reverse) (by simp) n;refine ⟨he, ?_, q2⟩;rw [List.reverse_toArray] at q1;unfold putRowK;rw [List.reverse_toArray];rw [zc9] at q1;exact q1
theorem zgH (w : World) (base : Nat) (v : Value) (l : List (Nat × Nat)) (h : w.ownsRow base 153 2 v l.length (yt l)) (hl : l.length <= 1000000) :
  Calls Tryz.prog 139 #[v] w fun e w' => e = .returned (.tuple #[]) ∧ w'.ownsRow base 153 2 v l.length (yt l.reverse) ∧ Chg (fun k => v.ownBlock = some k) w w' := by
 rcases Nat.eq_zero_or_pos l.length with h0 | h0
 ·obtain ⟨a, c, rfl⟩ := zl h
  rw [h0];refine (AnyQ.slices_Reverse_empty Tryz.reverseStep a c w).mono fun e w' ⟨he, hw⟩ => ?_;subst hw;obtain rfl : l = [] := List.eq_nil_of_length_eq_zero h0;exact ⟨he, h, Chg.refl _ _⟩
 ·obtain ⟨a, c, rfl⟩ := zl h
  obtain ⟨g, rfl⟩ := ZV h h0;refine (zeq w base g c l h hl).mono fun e w' ⟨he, ho, hc⟩ => ⟨he, ho, hc.mono (fun k _ e => by rw [e]; rfl)⟩
theorem zcS : ∀ (r : List Ent) (k : Nat), k < r.length -> (xz r)[3 * k]? = some (.int .i64 (xI r k).2.1) ∧ (xz r)[3 * k + 1]? = some (.int .i64 ((xI r k).2.2.1 : Int)) ∧ (xz r)[3 * k + 2]? = some (.int .i64 ((xI r k).2.2.2 : Int))
 | [], k, h => by simp at h
 | a :: t, 0, h => by unfold xz; rw [List.flatMap_cons]; exact ⟨rfl, rfl, rfl⟩
 | a :: t, k + 1, h => by
  obtain ⟨h1, h2, h3⟩ := zcS t k (by simpa using h);have e : xz (a :: t) = [.int .i64 a.2.1, .int .i64 (a.2.2.1 : Int), .int .i64 (a.2.2.2 : Int)] ++ xz t := by unfold xz; rw [List.flatMap_cons]
  have ee : xI (a :: t) (k + 1) = xI t k := rfl;rw [e, ee];refine ⟨?_, ?_, ?_⟩
  ·rw [List.getElem?_append_right (by simp; omega)]; simpa [show 3 * (k + 1) - 3 = 3 * k by omega] using h1
  ·rw [List.getElem?_append_right (by simp; omega)]; simpa [show 3 * (k + 1) + 1 - 3 = 3 * k + 1 by omega] using h2
  ·rw [List.getElem?_append_right (by simp; omega)]; simpa [show 3 * (k + 1) + 2 - 3 = 3 * k + 2 by omega] using h3
theorem zmW {W : World} {base : Nat} {X : RB} {r : List Ent} (h : zed W base X r) {i : Nat} (hi : i < r.length) : ∃ g c, X.fv = .slice (some ⟨g, 0, none⟩) r.length c ∧ W.cell? ⟨g, i * 3, none⟩ = some (.int .i64 (xI r i).2.1) ∧ W.cell? ⟨g, i * 3 + 1, none⟩ = some (.int .i64 ((xI r i).2.2.1 : Int)) ∧ W.cell? ⟨g, i * 3 + 1 + 1, none⟩ = some (.int .i64 ((xI r i).2.2.2 : Int)) := by
 have ho := h.hf;obtain ⟨a, c, e⟩ := zl ho;rw [e] at ho;obtain ⟨g, rfl⟩ := ZV ho (by omega);obtain ⟨q1, q2, q3⟩ := zcS r i hi;refine ⟨g, c, e, ?_, ?_, ?_⟩
 ·rw [ho.cellAt _ (by omega), Nat.mul_comm]; exact q1
 ·rw [ho.cellAt _ (by omega), Nat.mul_comm]; exact q2
 ·rw [ho.cellAt _ (by omega), Nat.mul_comm]; exact q3
section
variable {w : World} {v : Value} {R : List zA} {s : ByteArray} {b : Int}
set_option maxRecDepth 100000 in
theorem zlC (hA : zeX w v R s) (t : ByteArray) {k : Int} (h : zQ R s b = k) (hk : k ≠ 0) : Calls Tryz.prog 123 #[v, .string s, .string t, .int .i64 b] w fun e w' => e = .returned (.tuple #[.slice none 0 0, .int .i64 k]) ∧ Chg (fun _ => False) w w' := by
 have W := zb (zcI hA h hk);have g : (k != 0) = true := by rw [bne_iff_ne]; exact hk
 obtain ⟨la, cap, rfl, _, _⟩ := hA.rules;clear hA h hk;go_enter Tryz.func123, Tryz.ntmps123;go_wp2_with fail;(with_reducible refine W.out.mono ?_);rintro e w' ⟨rfl, kc⟩;go_wp2;go_ret2;exact ⟨rfl, kc⟩
set_option maxRecDepth 100000 in
theorem zj0 (hA : zeX w v R s) (t : ByteArray) (ht : t.size <= maxLen) (h : zQ R s b = 0) {r : List Ent} (hr : zgG R s b = some r) (hin : t.data.toList ∉ zx r) : Calls Tryz.prog 123 #[v, .string s, .string t, .int .i64 b] w fun e w' => e = .returned (.tuple #[.slice none 0 0, .int .i64 10]) ∧ Chg (fun _ => False) w w' := by
 have W := zb (zbK hA h hr);have HZI := zb Tryz.zeroInt;have KEY := zb (zgn t ht);obtain ⟨la, cap, rfl, _, _⟩ := hA.rules;have LK := zb (zdV hin);clear hA h hr hin;go_enter Tryz.func123, Tryz.ntmps123;go_wp2_with fail;(with_reducible refine W.out.mono ?_);rintro e w' ⟨X, rfl, hX, kc⟩;have c2 : w'.cell? ⟨X.b, 2, none⟩ = some (.map (some X.bm)) := ze hX.hb rfl;have HX := zb hX;clear hX;go_wp2_with (at_lookup; refine Yc rfl (.tmp 29) (.tmp 30) 210 rfl 57 3 .i64 Tryz.wordKeyed Tryz.underlying210 Tryz.underlying3 (HZI.out _) X.bm r.length _ rfl HX.out.hm _ (.string t.data.toList) rfl KEY.out 0 ?d1 false ?d2 ?dnext)
 case d1 => (rw [LK.out]); try rfl
 case d2 => (rw [LK.out]); try rfl
 go_wp2;go_ret2;exact ⟨rfl, kc⟩
set_option maxHeartbeats 1000000 in
set_option maxRecDepth 100000 in
theorem zm1 (hA : zeX w v R s) (t : ByteArray) (ht : t.size <= maxLen) (h : zQ R s b = 0) {r : List Ent} (hr : zgG R s b = some r) (hin : t.data.toList ∈ zx r) :
  Calls Tryz.prog 123 #[v, .string s, .string t, .int .i64 b] w fun e w' => ∃ va, e = .returned (.tuple #[va, .int .i64 0]) ∧ w'.ownsRow w.heap.size 153 2 va (YV r ((zx r).idxOf t.data.toList)).length (yt (YV r ((zx r).idxOf t.data.toList))) ∧ Chg (fun _ => False) w w' := by
 have W := zb (zbK hA h hr);have HZI := zb Tryz.zeroInt;have KEY := zb (zgn t ht);obtain ⟨h1, _⟩ := Zz h;obtain ⟨m1, m2, m3, m4⟩ := yD h1;obtain ⟨s1, s2, s3⟩ := zbl (by omega) hr;obtain ⟨la, cap, rfl, _, _⟩ := hA.rules;have LK := zb (XY hin);have FR := zb (zhC hr);have hil : (zx r).idxOf t.data.toList < r.length := by rw [<- yi]; exact List.idxOf_lt_length_of_mem hin
 generalize (zx r).idxOf t.data.toList = i0 at *;have PW := zb ((zdW FR.out i0 hil).2);have hrl : r.length <= 5000 := by omega
 clear hA h hr hin h1 m1 m2 m3 m4 s1 s2 s3;go_enter Tryz.func123, Tryz.ntmps123;go_wp2_with fail;(with_reducible refine W.out.mono ?_);rintro e w1 ⟨X, rfl, hX, kc⟩;have c2 : w1.cell? ⟨X.b, 2, none⟩ = some (.map (some X.bm)) := ze hX.hb rfl;have HX := zb hX;have KC := zb kc;clear hX kc W;go_wp2_with (at_lookup; refine Yc rfl (.tmp 29) (.tmp 30) 210 rfl 57 3 .i64 Tryz.wordKeyed Tryz.underlying210 Tryz.underlying3 (HZI.out _) X.bm r.length _ rfl HX.out.hm _ (.string t.data.toList) rfl KEY.out ((i0 : Nat) : Int) ?c1 true ?c2 ?next)
 case c1 => rw [LK.out]; rfl
 case c2 => rw [LK.out]; rfl
 clear c2;go_wp2;go_loopw [12, 14] (fun iv lv wr => ∃ (k : Nat) (L : List (Nat × Nat)), k <= i0 ∧ iv = .int .i64 k ∧ Hid (YV r i0 = YV r k ++ L.reverse ∧ L.length <= 5000 ∧ wr.ownsRow w1.heap.size 153 2 lv L.length (yt L) ∧ Chg (fun _ => False) w1 wr)) (fun iv _ _ => (intOf iv).toNat)
 case atStart => exact ⟨i0, [], Nat.le_refl _, rfl, zb ⟨by simp, by simp, World.ownsRow_nil _ _ _ _, Chg.refl _ _⟩⟩
 case round =>
  obtain ⟨k, L, hk, rfl, HI⟩ := hrel;have ho := HI.out.2.2.1;have hLl := HI.out.2.1;obtain ⟨a14, c14, e14⟩ := zl ho;subst e14;have HO := zb ho;have hc := HI.out.2.2.2;have hsz := hc.size;clear ho;by_cases hk0 : 0 < k
  ·obtain ⟨j, hjk, hj1, hj2⟩ := FR.out.back k hk0 (by omega)
   have PS := zb (zfp FR.out (by omega) hk0 hj1 hjk);have hXr := zaD.chg HX.out hc (fun _ _ e => e);have c1 : wr.cell? ⟨X.b, 1, none⟩ = some X.fv := ze hXr.hb rfl;obtain ⟨gf, cf, ef, f0, f1, f2⟩ := zmW hXr (show k < r.length by omega);rw [ef] at c1;rw [hj1] at f0;generalize (xI r k).2.2 = st at *;have x1 := (zaD.own_lt HX.out (.inl rfl)).2;have x2 := (zaD.own_lt HX.out (.inr (.inr (.inr (show X.fv.ownBlock = some gf by rw [ef]; rfl))))).2;have GK := zb (show ∀ W, Chg (fun x => w1.heap.size <= x) wr W -> W.cell? ⟨X.b, 1, none⟩ = some (.slice (some ⟨gf, 0, none⟩) r.length cf) ∧ W.cell? ⟨gf, k * 3, none⟩ = some (.int .i64 (j : Int)) from fun W h => ⟨zi h (by omega) c1, zi h (by omega) f0⟩);have HC := zb hc;have g0 : decide (0 < (k : Int)) = true := by rw [decide_eq_true_eq]; omega
   have hkr : k < r.length := by omega
   clear hc hXr ef hj1 hj2;obtain ⟨st1, st2⟩ := st;simp only at f1 f2;go_wp2_with (at_builtin; refine ze0 rfl (.tmp 38) (.tmp 47) 81 rfl 153 2 16 Tryz.underlying81 Tryz.elemStep w1.heap.size _ _ _ rfl (HO.out.alloc _) _ 1 [.int .i64 (st1 : Int), .int .i64 (st2 : Int)] 153 (0, 0) rfl (zf _ _) rfl ?n1 ?n2 ?n3 ?n4 ?next2)
   case n1 => intro u hu; simp at hu; rcases hu with rfl | rfl <;> rfl
   case n2 => omega
   case n3 => unfold maxLen; omega
   case n4 => simp; omega
   intro v2 w2 o2 g2;have k2 : Chg (fun x => w1.heap.size <= x) wr w2 := (zh (fun x => w1.heap.size <= x) wr (.cells #[.int .i64 (st1 : Int), .int .i64 (st2 : Int)] 153)).next (Chg.of_grown g2) (fun x hx e => (HO.out.lt x e).1)
   obtain ⟨d1, d0⟩ := GK.out _ k2;clear c1 f0 f1 f2;go_wp2;go_roundw
   case rel =>
    refine ⟨j, L ++ [(st1, st2)], by omega, rfl, zb ⟨?_, ?_, ?_, HC.out.next k2 (fun x hx e => by omega)⟩⟩
    ·rw [HI.out.1, PS.out]; simp
    ·have h1 := PW.out
     rw [HI.out.1, PS.out] at h1;simp at h1 ⊢;omega
    ·rw [List.length_append, zbq]; exact o2
   case measure => simp [intOf]; omega
  ·obtain rfl : k = 0 := by omega
   have PE := zb (show YV r i0 = L.reverse by rw [HI.out.1, zfo]; rfl);have REV := zb (zgH wr w1.heap.size _ L HO.out (by omega));have HC := zb hc;clear hc;go_wp2_with fail;(with_reducible refine REV.out.mono ?_);rintro e w2 ⟨rfl, o2, k2⟩;go_wp2;go_ret2;refine ⟨_, rfl, ?_, ?_⟩
   ·rw [PE.out, List.length_reverse]
    exact zaa o2 KC.out.size
   ·refine (KC.out.trans HC.out).next k2 (fun x hx e => ?_)
    have := (HO.out.lt x e).1;have := KC.out.size;omega
end
def zik (o : Option Wd) : Value := match o with
 | none => .tuple #[.string ⟨#[]⟩, .int .i64 10]
 | some u => .tuple #[.string (bar u), .int .i64 0]
theorem zjp (w : World) (la lv : Option Addr) (n c m d : Nat) (s : ByteArray) (hs : s.size <= maxLen) (h : Zm s.data.toList = false) :
  Calls Tryz.prog 105 #[.slice la n c, .string s, .slice lv m d] w fun e w' => e = .returned (.tuple #[.string ⟨#[]⟩, .int .i64 2]) ∧ Chg (fun _ => False) w w' := by
 have MAY := zb (Xi w s hs);rw [h] at MAY;clear h;go_enter Tryz.func105, Tryz.ntmps105;go_wp2_with fail;(with_reducible refine MAY.out.mono ?_);rintro e w' ⟨rfl, kc⟩;go_wp2;go_ret2;exact ⟨rfl, kc⟩
set_option maxHeartbeats 2000000 in
set_option maxRecDepth 100000 in
theorem zlk (w : World) (v lv : Value) (R : List zA) (L : List (Int × Int)) (s : ByteArray) (hv : zM w v (· < w.heap.size) R) (hl : yw w lv (· < w.heap.size) L) (hmay : Zm s.data.toList = true) :
  Calls Tryz.prog 105 #[v, .string s, lv] w fun e w' => e = .returned (zik (Yz (R.map Zo) s.data.toList L)) ∧ Chg (fun _ => False) w w' := by
 have HV := zb hv;have HL := zb hl;obtain ⟨la, cap, rfl, hl0, _⟩ := hv;obtain ⟨lb, lcap, rfl, hl1, _⟩ := hl;have hs8 := Zh hmay;have MAY := zb (Xi w s (by unfold maxLen; omega));rw [hmay] at MAY;have HMAY := zb hmay;clear hmay;unfold maxLen at hl0 hl1;go_enter Tryz.func105, Tryz.ntmps105;go_wp2_with fail;(with_reducible refine MAY.out.mono ?_);rintro e w1 ⟨rfl, k1⟩;have K1 := zb k1;clear k1;go_wp2;go_loopw [1, 18] (fun sv iv wr => ∃ (u : ByteArray) (k : Nat), k <= L.length ∧ sv = .string u ∧ iv = .int .i64 k ∧ Hid (Yz (R.map Zo) s.data.toList (L.take k) = some u.data.toList ∧ Zm u.data.toList = true ∧ Chg (fun _ => False) w wr)) (fun _ iv _ => L.length - (intOf iv).toNat)
 case atStart => exact ⟨s, 0, by omega, rfl, rfl, zb ⟨rfl, HMAY.out, K1.out⟩⟩
 case round =>
  obtain ⟨u, k, hk, rfl, rfl, HI⟩ := hrel;have hu8 := Zh HI.out.2.1;by_cases hlt : k < L.length
  ·obtain ⟨⟨xa, xk⟩, hx⟩ : ∃ x, L[k]? = some x := ⟨_, List.getElem?_eq_getElem hlt⟩
   have hlr := HL.out.chg HI.out.2.2 (fun _ _ e => e);have hvr := HV.out.chg HI.out.2.2 (fun _ _ e => e);obtain ⟨lb', lcap', e1, _, hcl⟩ := hlr;cases e1;obtain ⟨gb, go, rfl, hgb, c0, c1⟩ := hcl k _ hx
   have TK := zb (show ∀ o, YP (R.map Zo) u.data.toList (xa, xk) = o -> Yz (R.map Zo) s.data.toList (L.take (k + 1)) = o from fun o ho => by
    rw [List.take_add_one, hx, Option.toList_some, zbJ, HI.out.1]; exact ho)
   have TN := zb (show YP (R.map Zo) u.data.toList (xa, xk) = none -> Yz (R.map Zo) s.data.toList L = none from fun ho => by
    have := Yy (R.map Zo) (L.take (k + 1)) (L.drop (k + 1)) s.data.toList (TK.out _ ho);rwa [List.take_append_drop] at this)
   have hgs : gb < wr.heap.size := Nat.lt_of_lt_of_le hgb HI.out.2.2.size;have KR := zb HI.out.2.2;simp only at c0 c1;clear hcl hx;have b0 : (wr.alloc (.cells #[.int .i64 xa, .int .i64 xk] 153)).heap[wr.heap.size]? = some (.cells #[.int .i64 xa, .int .i64 xk] 153 (0, 0)) := zf _ _;have K2 := zb (HI.out.2.2.alloc (.cells #[.int .i64 xa, .int .i64 xk] 153));have B0 := zb b0;clear b0;by_cases hx0 : xk < 0
   ·have g0 : decide (xk < 0) = true := by rw [decide_eq_true_eq]; exact hx0
    have RES := zb (TN.out (yG (fun q => by have := q.1; simp only at this; omega)));clear hx0;go_wp2;go_ret2;exact ⟨by rw [RES.out]; rfl, K2.out⟩
   ·have g0 : decide (xk < 0) = false := by rw [decide_eq_false_iff_not]; exact hx0
    obtain ⟨j, rfl⟩ : ∃ j : Nat, xk = j := ⟨xk.toNat, by omega⟩;by_cases hj : R.length <= j
    ·have g1 : decide (R.length <= j) = true := by rw [decide_eq_true_eq]; exact hj
     have RES := zb (TN.out (yG (fun q => by have := q.2.1; simp only [List.length_map] at this; omega)));go_wp2;go_ret2;exact ⟨by rw [RES.out]; rfl, K2.out⟩
    ·have g1 : decide (R.length <= j) = false := by rw [decide_eq_false_iff_not]; exact hj
     have hjl : j < R.length := by omega
     obtain ⟨⟨ra, rb⟩, hr⟩ : ∃ r, R[j]? = some r := ⟨_, List.getElem?_eq_getElem (show j < R.length by omega)⟩;obtain ⟨la', cap', e1, _, hvl⟩ := hvr;cases e1;obtain ⟨ga, gc, rfl, hga, d0, d1, hra, hrb⟩ := hvl j _ hr;simp only at d0 d1 hra hrb;have RU := zb (zgE hr);have US := zb (fun a => zhq hr u.data.toList a);have CNT := zb (zb0 (wr.alloc (.cells #[.int .i64 xa, .int .i64 (j : Int)] 153)) (ra, rb) hra hrb);unfold zfe at CNT;simp only at CNT;have hgaw : ga < wr.heap.size := Nat.lt_of_lt_of_le hga KR.out.size;clear hvl hr;cases hc : Zn (Zo (ra, rb)) with
     | false =>
      rw [hc] at CNT;have RES := zb (TN.out (yG (fun q => by have h := q.2.2; simp only [Int.toNat_natCast] at h; rw [RU.out, hc] at h; cases h)));clear hc;go_wp2_with fail;(with_reducible refine CNT.out.mono ?_);rintro e w3 ⟨rfl, k3⟩;go_wp2;go_ret2;exact ⟨by rw [RES.out]; rfl, K2.out.trans k3⟩
     | true =>
      rw [hc] at CNT;obtain ⟨m1, m2, m3⟩ := (xi _).1 hc;simp only [Zo] at m1 m2 m3;have SA := Zh m1;have SB := Zh m2;have PA := YB m1;rw [zv] at PA;have NP := zb (fun h => TN.out (zaH (w := u.data.toList) (x := (xa, (j : Int))) (by simp only [Int.toNat_natCast]; rw [RU.out]; exact h)));have HC := zb hc;clear hc m1 m2;go_wp2_with fail;(with_reducible refine CNT.out.mono ?_);rintro e w3 ⟨rfl, k3⟩;have b3 := k3.obj (fun e => e) B0.out;have d0' : w3.cell? ⟨ga, gc + j * 2, none⟩ = some (.string ra) := zi k3 (fun e => e) (zi (zh (fun _ => False) wr _) (fun e => e) d0);have d1' : w3.cell? ⟨ga, gc + j * 2 + 1, none⟩ = some (.string rb) := zi k3 (fun e => e) (zi (zh (fun _ => False) wr _) (fun e => e) d1);have e0 : w3.cell? ⟨wr.heap.size, 0, none⟩ = some (.int .i64 xa) := ze b3 rfl;have e1 : w3.cell? ⟨wr.heap.size, 1, none⟩ = some (.int .i64 (j : Int)) := ze b3 rfl;have hsz3 : wr.heap.size < w3.heap.size := by have := k3.size; simp at this; omega
      have K3 := zb (K2.out.trans k3);clear d0 d1 b3 k3 CNT c0 c1;go_wp2_with fail;have K4 := zb (K3.out.alloc (.cells #[.string ra, .string rb] 66));have b4 := zf w3 (.cells #[.string ra, .string rb] 66);have f0 := zi (zh (fun _ => False) w3 (.cells #[.string ra, .string rb] 66)) (fun e => e) e0;generalize w3.alloc (.cells #[.string ra, .string rb] 66) = w4 at *;have p0 : w4.cell? ⟨w3.heap.size, 0, none⟩ = some (.string ra) := ze b4 rfl;have p1 : w4.cell? ⟨w3.heap.size, 1, none⟩ = some (.string rb) := ze b4 rfl;clear d0' d1' e0 e1 b4;have LEN := zb (fun n => Zy (w4.drewN n) u (by unfold maxLen; omega));have LENA := zb (fun w => Zy w ra (by unfold maxLen; omega));have hue : u.size = 2 * zt u.data.toList := by unfold zt; rw [zv]; omega
      have hae : ra.size = 2 * zt ra.data.toList := by unfold zt; rw [zv]; omega
      by_cases hx1 : xa < 0
      ·have g2 : decide (xa < 0) = true := by rw [decide_eq_true_eq]; exact hx1
       have RES := zb (NP.out (fun q => by omega));clear hx1;go_quiet (fail);rename_i nq;go_wp2;go_ret2;exact ⟨by rw [RES.out]; rfl, K4.out.drewN nq⟩
      ·have g2 : decide (xa < 0) = false := by rw [decide_eq_false_iff_not]; exact hx1
       obtain ⟨i, rfl⟩ : ∃ i : Nat, xa = i := ⟨xa.toNat, by omega⟩;by_cases hi : zt u.data.toList <= i
       ·have g3 : decide (zt u.data.toList <= i) = true := by rw [decide_eq_true_eq]; exact hi
        have RES := zb (NP.out (fun q => by have := q.2.1; simp only [Zo] at this; omega));generalize zt u.data.toList = N at *;go_quiet ((go_at_call 80; exact Yf LEN.out));rename_i nq;go_wp2;go_ret2;exact ⟨by rw [RES.out]; rfl, K4.out.drewN nq⟩
       ·have g3 : decide (zt u.data.toList <= i) = false := by rw [decide_eq_false_iff_not]; exact hi
        have FND := zb (fun n => zhT (w4.drewN n) u ra i (by omega) (by omega) (by omega) (by omega) (by omega));have FI := zb (@zks u.data.toList ra.data.toList i);by_cases hf : YN u.data.toList ra.data.toList i = i
        ·rw [hf] at FND
         have g4 : ((i : Int) != (i : Int)) = false := by simp
         obtain ⟨f1, f2⟩ := FI.out.1 hf
         have ST : YP (R.map Zo) u.data.toList ((i : Int), (j : Int)) = some (ZJ u.data.toList i (zt ra.data.toList) rb.data.toList) := by
          unfold YP;rw [if_pos]
          ·simp only [Int.toNat_natCast]; rw [US.out]
          ·refine ⟨by simp only; omega, by simp only [List.length_map]; omega, ?_, by simp only; omega, ?_, ?_⟩
           ·simp only [Int.toNat_natCast]; rw [RU.out]; exact HC.out
           ·simp only [Int.toNat_natCast]; rw [RU.out]; simp only [Zo]; omega
           ·simp only [Int.toNat_natCast]; rw [RU.out]; exact f2
         have TKO := zb (TK.out _ ST);have SM := zb (zcN HI.out.2.1 ST)
         have SW := zb (fun w => zgu w u rb i (zt ra.data.toList) (by omega) (by omega) (by omega) (by omega) f1 (by
          have : zt u.data.toList <= 8 := by omega
          omega))
         clear hf ST f2;generalize hsw : ZJ u.data.toList i (zt ra.data.toList) rb.data.toList = uw at *;have HSW := zb hsw;clear hsw hi f1 hue hae m3;generalize zt u.data.toList = N at *;generalize zt ra.data.toList = M at *;go_quiet ((first | (go_at_call 80; exact Yf LEN.out) | (go_at_call 129; exact Yf FND.out)));rename_i nq;go_wp2_with fail;have K5 := zb (K4.out.drewN nq);have f0' : (w4.drewN nq).cell? ⟨wr.heap.size, 0, none⟩ = some (.int .i64 (i : Int)) := f0;have p0' : (w4.drewN nq).cell? ⟨w3.heap.size, 0, none⟩ = some (.string ra) := p0;have p1' : (w4.drewN nq).cell? ⟨w3.heap.size, 1, none⟩ = some (.string rb) := p1;generalize w4.drewN nq = w5 at *;clear LEN FND f0 p0 p1;go_quiet ((first | (go_at_call 80; exact Yf (fun n => LENA.out _)) | (go_at_call 130; exact yj (fun n => SW.out _))));have K6 := zb (K5.out.drewN nq);go_wp2;go_roundw
         case rel => exact ⟨_, k + 1, by omega, rfl, by go_num, zb ⟨by rw [TKO.out], SM.out.1, K6.out⟩⟩
         case measure => simp [intOf]; omega
        ·have g4 : (YN u.data.toList ra.data.toList i != (i : Int)) = true := by rw [bne_iff_ne]; exact hf
         have RES := zb (NP.out (fun q => hf (FI.out.2 ⟨by have := q.2.1; simp only [Zo] at this; omega, by have := q.2.2; simpa [Zo] using this⟩)));clear hf;generalize YN u.data.toList ra.data.toList i = fi at *;generalize zt u.data.toList = N at *;go_quiet ((first | (go_at_call 80; exact Yf LEN.out) | (go_at_call 129; exact Yf FND.out)));rename_i nq;go_wp2;go_ret2;exact ⟨by rw [RES.out]; rfl, K4.out.drewN nq⟩
  ·obtain rfl : k = L.length := by omega
   have RES := zb (show Yz (R.map Zo) s.data.toList L = some u.data.toList by have := HI.out.1; rwa [List.take_length] at this);go_wp2;go_ret2;exact ⟨by rw [RES.out]; unfold zik; simp only; rw [zhZ]; rfl, HI.out.2.2⟩
def yx (R : List zA) (s t : ByteArray) (b : Int) : Int := if zQ R s b = 0 then (if t.data.toList ∈ zx (zga R s b) then 0 else 10) else zQ R s b
def XO (R : List zA) (s t : ByteArray) (b : Int) : List (Int × Int) := if yx R s t b = 0 then (YV (zga R s b) ((zx (zga R s b)).idxOf t.data.toList)).map fun h => ((h.1 : Int), (h.2 : Int)) else []
end Go.Proofs.YthdfplafihmejaaGreat
