/-
  Package proof: Heavy, leads; Check in plain Lean. Package proof: Check. Cuts in plain Lean: whose a rule is, what is needed, where rules go; a cut proof, cut again, stays. Proofs that are right, in plain Lean: item by item; cut they stay right; what is made is right; what is right is so. QCutP: what else. Decide, in plain Lean: what is asked, what a why is, and what follows. Decide, in plain Lean: the answer is the truth; in whatever order certificates stand.
-/
import Derived.Test.YthdfplafihmejaaGreatZcQNum
import Derived.Test.YthdfplafihmejaaGreatZcQReach
import Derived.Test.YthdfplafihmejaaGreatZcAEnt
import Derived.Test.YthdfplafihmejaaGreatZcQNeed
import Derived.Test.YthdfplafihmejaaGreatZcQAt
import Derived.Test.YthdfplafihmejaaGreatZcQMake
import Derived.Test.YthdfplafihmejaaGreatZcVShort
namespace Go.Proofs.YthdfplafihmejaaGreat
open Go.RowKit Go.Maps
def ZA (R : List zA) (x u : ByteArray) (l : zG) : Bool := Zm x.data.toList && (match Yz (R.map Zo) x.data.toList l with
 | some y => decide (bar y = u)
 | none => false)
set_option maxRecDepth 100000 in
theorem zc3 (w : World) (v sv : Value) (R : List zA) (l : zG) (x u : ByteArray) (hv : zM w v (· < w.heap.size) R) (hl : yw w sv (· < w.heap.size) l) (hx : x.size <= maxLen) :
  Calls Tryz.prog 73 #[v, .string x, .string u, sv] w fun e w' => e = .returned (.bool (ZA R x u l)) ∧ Chg (fun _ => False) w w' := by
 unfold ZA;cases hm : Zm x.data.toList with
 | false =>
  rw [Bool.false_and];obtain ⟨la, cap, rfl, _, _⟩ := hv;obtain ⟨ka, kc, rfl, _, _⟩ := hl;have WF := zb (zjp w la ka R.length cap l.length kc x hx hm);clear hm;go_enter Tryz.func73, Tryz.ntmps73;go_wp2_with fail;(with_reducible refine WF.out.mono ?_);rintro e w2 ⟨rfl, k2⟩;go_wp2;go_ret;exact ⟨rfl, k2⟩
 | true =>
  rw [Bool.true_and];have WA := zlk w v sv R l x hv hl hm;clear hm hv hl;cases hw : Yz (R.map Zo) x.data.toList l with
  | none =>
   rw [hw] at WA;unfold zik at WA;simp only at WA ⊢;have WA := zb WA;clear hw;go_enter Tryz.func73, Tryz.ntmps73;go_wp2_with fail;(with_reducible refine WA.out.mono ?_);rintro e w2 ⟨rfl, k2⟩;have K2 := zb k2;clear WA k2;go_wp2;go_ret;exact ⟨rfl, K2.out⟩
  | some y =>
   rw [hw] at WA;unfold zik at WA;simp only at WA ⊢;have WA := zb WA;clear hw;have g1 : ((bar y).toList == u.toList) = decide (bar y = u) := YK _ _;generalize decide (bar y = u) = b at g1 ⊢;generalize bar y = yy at *;go_enter Tryz.func73, Tryz.ntmps73;go_wp2_with fail;(with_reducible refine WA.out.mono ?_);rintro e w2 ⟨rfl, k2⟩;have K2 := zb k2;clear WA k2;go_wp2;go_ret;exact ⟨by first | rfl | simp, K2.out⟩
def YT (R : List zA) (c : zn) (ps : List zG) : Bool := (List.range ps.length).all fun j => ZA R (c.fr.getD j ⟨#[]⟩) (Zw c.sg) (ps.getD j [])
def za0 (R : List zA) (C : List zn) (seen : List Nat) (x : zF) : Int := if x.cert < 0 ∨ (C.length : Int) <= x.cert then 1 else if x.cert.toNat ∈ seen then 11 else match C[x.cert.toNat]? with
 | none => 1
 | some c => if ZG c = true ∧ x.paths.length = c.fr.length then (if YT R c x.paths = true then 0 else 13) else 2
def xy (C : List zn) (x : zF) : List zA := match C[x.cert.toNat]? with
 | some c => ZE c
 | none => []
def YO (C : List zn) : List zA -> List Nat -> List zF -> Int × List zA
 | R, _, [] => (0, R)
 | R, seen, x :: I => if za0 R C seen x = 0 then YO C (R ++ xy C x) (seen ++ [x.cert.toNat]) I else (za0 R C seen x, R)
def yM (R : List zA) (C : List zn) (p : zS) (x u : ByteArray) : Int := if (YO C R [] p.items).1 = 0 then (if ZA (YO C R [] p.items).2 x u p.steps = true then 0 else 13) else (YO C R [] p.items).1
structure zdp (w wr : World) (iv sv : Value) (gs n : Nat) (rv : Value) (R : List zA) (seen : List Nat) : Prop where
 box : wr.heap[w.heap.size]? = some (.cells #[iv, sv] 83 (0, 0))
 sn : wr.heap[gs]? = some (.cells (YR n seen).toArray 4 (0, 0))
 row : wr.ownsRow w.heap.size 66 2 rv R.length (zw R)
 ch : Chg (fun _ => False) w wr
 low : w.heap.size <= gs
theorem zdp.chg {w wr w' : World} {iv sv rv : Value} {gs n : Nat} {R : List zA} {seen : List Nat} (h : zdp w wr iv sv gs n rv R seen) (k : Chg (fun _ => False) wr w') : zdp w w' iv sv gs n rv R seen :=
 ⟨k.obj (fun e => e) h.box, k.obj (fun e => e) h.sn, zm h.row k (fun _ _ e => e), h.ch.trans k, h.low⟩
theorem zdp.see {w wr : World} {iv sv rv : Value} {gs n i : Nat} {R : List zA} {seen : List Nat} (h : zdp w wr iv sv gs n rv R seen) (hi : i < n) : zdp w (wr.setCell ⟨gs, i, none⟩ (.bool true)) iv sv gs n rv R (seen ++ [i]) := by
 have kc := zE wr gs i (.bool true);refine ⟨kc.obj (fun e => Zd h.box h.sn (by decide) e) h.box, ?_, zm h.row kc (fun k hk e => ?_), h.ch.next kc (fun k hk e => by have := h.low; omega), h.low⟩
 ·have := zr (o := i) h.sn (.bool true)
  rw [this]
  congr 2
  rw [List.setIfInBounds_toArray, zc6 hi]
 ·obtain ⟨cs, q⟩ := zz h.row hk
  exact Zd q h.sn (by decide) e
theorem zdp.more {w wr w' : World} {iv sv rv rv' : Value} {gs n : Nat} {R M : List zA} {seen : List Nat} (h : zdp w wr iv sv gs n rv R seen) (hg : wr.grownBy w' rv.ownBlock) (ho : w'.ownsRow w.heap.size 66 2 rv' (R.length + M.length) (zw R ++ zw M)) : zdp w w' iv sv gs n rv' (R ++ M) seen := by
 have kg := Chg.of_grown hg;refine ⟨kg.obj (fun e => ?_) h.box, kg.obj (fun e => ?_) h.sn, by rw [List.length_append, yS]; exact ho, h.ch.next kg (fun k hk e => by have := (h.row.lt k e).1; omega), h.low⟩
 ·obtain ⟨cs, q⟩ := zz h.row e
  exact Zd q h.box (by decide) rfl
 ·obtain ⟨cs, q⟩ := zz h.row e
  exact Zd q h.sn (by decide) rfl
theorem zfP {c : zn} {G : Nat -> Prop} {w : World} {v : Value} (h : Yu w v G c) : ∀ r ∈ ZE c, r.1.size <= maxLen ∧ r.2.size <= maxLen := fun r hr => by
 unfold ZE at hr;obtain ⟨x, hx, rfl⟩ := List.mem_map.1 hr;refine ⟨?_, h.sp⟩;obtain ⟨la, cap, _, _, hc⟩ := h.set.at_;obtain ⟨j, hj⟩ := List.mem_iff_getElem?.1 hx;obtain ⟨_, _, _, _, _, q⟩ := hc j x hj;exact q
theorem zfm {R : List zA} {c : zn} {ps : List zG} (h : ∀ (j : Nat) x l, c.fr[j]? = some x -> ps[j]? = some l -> ZA R x (Zw c.sg) l = true) (hl : ps.length = c.fr.length) : YT R c ps = true := by
 unfold YT;rw [List.all_eq_true];intro j hj;have hjl := List.mem_range.1 hj
 have h1 : c.fr[j]? = some (c.fr.getD j ⟨#[]⟩) := by
  rw [List.getD_eq_getElem?_getD, List.getElem?_eq_getElem (by omega)]; rfl
 have h2 : ps[j]? = some (ps.getD j []) := by
  rw [List.getD_eq_getElem?_getD, List.getElem?_eq_getElem hjl]; rfl
 exact h j _ _ h1 h2
theorem zfn {R : List zA} {c : zn} {ps : List zG} {j : Nat} {x : ByteArray} {l : zG} (h1 : c.fr[j]? = some x) (h2 : ps[j]? = some l) (h : ZA R x (Zw c.sg) l = false) : YT R c ps = false := by
 cases hb : YT R c ps with
 | false => rfl
 | true =>
  unfold YT at hb;rw [List.all_eq_true] at hb;have := hb j (List.mem_range.2 (List.getElem?_eq_some_iff.1 h2).1);rw [List.getD_eq_getElem?_getD, h1, List.getD_eq_getElem?_getD, h2] at this;simp only [Option.getD_some] at this;rw [h] at this;cases this
theorem zdg {C : List zn} {R : List zA} {seen : List Nat} {I : List zF} {k : Nat} {x : zF} {e : Int} (hx : I[k]? = some x) (h : za0 R C seen x = e) (he : e ≠ 0) : YO C R seen (I.drop k) = (e, R) := by
 have hk := (List.getElem?_eq_some_iff.1 hx).1;rw [List.drop_eq_getElem_cons hk, (List.getElem?_eq_some_iff.1 hx).2];unfold YO;rw [if_neg (by rw [h]; exact he), h]
theorem zfT {C : List zn} {R : List zA} {seen : List Nat} {I : List zF} {k : Nat} {x : zF} (hx : I[k]? = some x) (h : za0 R C seen x = 0) : YO C R seen (I.drop k) = YO C (R ++ xy C x) (seen ++ [x.cert.toNat]) (I.drop (k + 1)) := by
 have hk := (List.getElem?_eq_some_iff.1 hx).1;rw [List.drop_eq_getElem_cons hk, (List.getElem?_eq_some_iff.1 hx).2]
 conv => lhs; unfold YO
 rw [if_pos h]
theorem znM (n : Nat) : (madeCells #[Value.bool false] n).toList = YR n [] := zad n
set_option maxHeartbeats 16000000 in
set_option maxRecDepth 100000 in
theorem zg9 (w : World) (ra : Option Addr) (R : List zA) (rc : Nat) (v iv sv : Value) (P : List (zn × Value)) (p : zS) (x u : ByteArray) (hR : zM w (.slice ra R.length rc) (· < w.heap.size) R) (hnil : ra = none -> R.length = 0 ∧ rc = 0) (hRl : R.length <= 1000000000) (hv : yb w v (· < w.heap.size) P) (hPl : P.length <= 1000) (hp : yg w iv sv (· < w.heap.size) p) (hI : p.items.length <= 1000) (hx : x.size <= maxLen) :
  Calls Tryz.prog 42 #[.slice ra R.length rc, v, .agg #[iv, sv], .string x, .string u] w fun e w' => e = .returned (.int .i64 (yM R (zj P) p x u)) ∧ Chg (fun _ => False) w w' := by
 have HV := zb hv;have HP := zb hp;have HX := zb hx;obtain ⟨la, lcap, rfl, hl0, _⟩ := hv;obtain ⟨ia, ic, rfl⟩ := hp.items.shape;obtain ⟨sa, sc, rfl⟩ := hp.steps.shape;have CL := zO P
 have RSZ := zb (show ∀ r ∈ R, r.1.size <= maxLen ∧ r.2.size <= maxLen from fun r hr => by
  obtain ⟨_, _, _, _, q⟩ := hR;obtain ⟨j, hj⟩ := List.mem_iff_getElem?.1 hr;obtain ⟨_, _, _, _, _, _, q2⟩ := q j r hj;exact q2)
 have kb := zh (fun _ => False) w (.cells #[.slice ia p.items.length ic, .slice sa p.steps.length sc] 83);have OB := zb (zf w (.cells #[.slice ia p.items.length ic, .slice sa p.steps.length sc] 83));have KB := zb kb;have CLN := zb (zdS (w.alloc (.cells #[.slice ia p.items.length ic, .slice sa p.steps.length sc] 83)) ra R rc (· < w.heap.size) (hR.chg kb (fun _ _ e => e)) hnil hRl);have hs1 : w.heap.size <= (w.alloc (.cells #[.slice ia p.items.length ic, .slice sa p.steps.length sc] 83)).heap.size := kb.size;have CE := zb (show yM R (zj P) p x u = if (YO (zj P) R [] (p.items.drop 0)).1 = 0 then (if ZA (YO (zj P) R [] (p.items.drop 0)).2 x u p.steps = true then 0 else 13) else (YO (zj P) R [] (p.items.drop 0)).1 from rfl);generalize yM R (zj P) p x u = res at *;obtain ⟨CI, hCI⟩ : ∃ CI : List zA -> List Nat -> Nat -> Int × List zA, CI = fun R seen k => YO (zj P) R seen (p.items.drop k) := ⟨_, rfl⟩;have CE2 := zb (show res = if (CI R [] 0).1 = 0 then (if ZA (CI R [] 0).2 x u p.steps = true then 0 else 13) else (CI R [] 0).1 from by rw [hCI]; exact CE.out);obtain ⟨IE, hIE⟩ : ∃ IE : List zA -> List Nat -> zF -> Int, IE = fun R seen x => za0 R (zj P) seen x := ⟨_, rfl⟩;have STOP := zb (fun R seen k (y : zF) (e : Int) (hy : p.items[k]? = some y) (h : IE R seen y = e) (he : e ≠ 0) => show CI R seen k = (e, R) from by rw [hCI]; rw [hIE] at h; exact zdg hy h he);have GO := zb (fun R seen k (y : zF) (hy : p.items[k]? = some y) (h : IE R seen y = 0) => show CI R seen k = CI (R ++ xy (zj P) y) (seen ++ [y.cert.toNat]) (k + 1) from by rw [hCI]; rw [hIE] at h; exact zfT hy h);have END := zb (fun R seen => show CI R seen p.items.length = (0, R) from by rw [hCI]; simp only [List.drop_length]; rfl);have IE1 := zb (fun R seen (y : zF) (h : y.cert < 0 ∨ (P.length : Int) <= y.cert) => show IE R seen y = 1 from by rw [hIE]; unfold za0; rw [CL]; exact if_pos h);have IE2 := zb (fun R seen (y : zF) (h : ¬ (y.cert < 0 ∨ (P.length : Int) <= y.cert)) (h2 : y.cert.toNat ∈ seen) => show IE R seen y = 11 from by rw [hIE]; unfold za0; rw [CL]; simp only; rw [if_neg h, if_pos h2])
 have IE3 := zb (fun R seen (y : zF) (c : Nat) q (hc : y.cert = (c : Int)) (hq : P[c]? = some q) (h2 : c ∉ seen) => show IE R seen y = if ZG q.1 = true ∧ y.paths.length = q.1.fr.length then (if YT R q.1 y.paths = true then 0 else 13) else 2 from by
  have hcl := (List.getElem?_eq_some_iff.1 hq).1;rw [hIE];unfold za0;rw [CL];simp only;rw [hc, Int.toNat_natCast, if_neg (by omega), if_neg h2, Zq hq])
 have RI := zb (fun (y : zF) (c : Nat) q (hc : y.cert = (c : Int)) (hq : P[c]? = some q) => show xy (zj P) y = ZE q.1 from by
  unfold xy;rw [hc, Int.toNat_natCast, Zq hq])
 clear CE CL hCI hIE hR hnil hp hx kb;obtain ⟨bi, hbi, hbz, hb1, hb2⟩ := Tryz.boolInfo;go_enter Tryz.func42, Tryz.ntmps42;go_wp2_with fail;generalize w.alloc (.cells #[.slice ia p.items.length ic, .slice sa p.steps.length sc] 83) = w1 at *;(with_reducible refine CLN.out.mono ?_);rintro e w2 ⟨v2, rfl, o2, k2⟩;obtain ⟨a2, c2, rfl⟩ := zl o2;have K2 := zb (KB.out.trans k2);have OB2 := zb (k2.obj (fun e => e) OB.out);have O2 := zb (yA o2 hs1);have hs2 : w.heap.size <= w2.heap.size := K2.out.size;clear CLN o2 k2 KB OB;go_wp2_with (at_make; refine wpList_make_full _ rfl (.tmp 22) (.tmp 22) 145 rfl w.heap.size 4 bi (.bool false) 1 Tryz.underlying145 hbi hbz hb1 .i64 .i64 (P.length : Int) (P.length : Int) P.length rfl rfl rfl rfl ?b2 ?b3 ?b4 ?next)
 case b2 => rw [hb2]; omega
 case b3 => unfold maxLen; omega
 case b4 => exact hs2
 intro w4 own4 g4;have k4 := (Chg.of_grown g4).mono (T := fun _ => False) (fun _ _ e => by cases e);obtain ⟨hnd, _, _⟩ := zfs own4
 have CI0 := zb (show zdp w w4 (.slice ia p.items.length ic) (.slice sa p.steps.length sc) w2.heap.size P.length (.slice a2 R.length c2) R [] from
  ⟨k4.obj (fun e => e) OB2.out, by rw [<- znM]; first | exact hnd | simpa using hnd, zm O2.out k4 (fun _ _ e => e), K2.out.trans k4, hs2⟩)
 have q0 := ze (o := 0) CI0.out.box rfl;clear own4 g4 k4 hnd hbi hbz hb1 hb2 OB2 O2 K2;go_wp2_with fail;clear q0;generalize w2.heap.size = gs at *;go_loopw [11, 27] (fun rv iv wr => ∃ (k : Nat) (Rk : List zA) (seen : List Nat), k <= p.items.length ∧ Rk.length <= R.length + k * 1000 ∧ iv = .int .i64 k ∧ Hid (zdp w wr (.slice ia p.items.length ic) (.slice sa p.steps.length sc) gs P.length rv Rk seen ∧ (∀ r ∈ Rk, r.1.size <= maxLen ∧ r.2.size <= maxLen) ∧ CI R [] 0 = CI Rk seen k)) (fun _ iv _ => p.items.length - (intOf iv).toNat)
 case atStart => exact ⟨0, R, [], by omega, by omega, rfl, zb ⟨CI0.out, RSZ.out, rfl⟩⟩
 case round =>
  obtain ⟨k, Rk, seen, hk, hRk, rfl, HI⟩ := hrel;obtain ⟨a3, c3, er⟩ := zl HI.out.1.row;subst er;have CN := zb HI.out.1;have RS := zb HI.out.2.1;have EQ := zb HI.out.2.2;clear HI CI0;by_cases hlt : k < p.items.length
  ·as_aux_lemma =>
   obtain ⟨y, hy⟩ : ∃ y, p.items[k]? = some y := ⟨_, List.getElem?_eq_getElem hlt⟩
   have ERR := zb (fun (e : Int) (h : IE Rk seen y = e) (he : e ≠ 0) => show res = e from by
    rw [CE2.out, EQ.out, STOP.out Rk seen k y e hy h he];simp only;rw [if_neg he])
   have NEXT := zb (fun (h : IE Rk seen y = 0) => show CI R [] 0 = CI (Rk ++ xy (zj P) y) (seen ++ [y.cert.toNat]) (k + 1) from by rw [EQ.out, GO.out Rk seen k y hy h]);have J1 := zb (IE1.out Rk seen y);have J2 := zb (IE2.out Rk seen y);have J3 := zb (IE3.out Rk seen y);have RIY := zb (RI.out y);obtain ⟨_, _, e1, _, hcl⟩ := HP.out.items;cases e1;obtain ⟨lb, lo, pv, rfl, _, j0, j1, hpa⟩ := hcl k _ hy;have hpl := hpa.len;obtain ⟨pa, pc, rfl⟩ := hpa.shape;have i0 := zi CN.out.ch (fun e => e) j0;have i1 := zi CN.out.ch (fun e => e) j1;have HPA := zb hpa;obtain ⟨cert, paths⟩ := y;simp only at i0 i1 hpl HPA J1 J2 J3 RIY NEXT;have kx := zh (fun _ => False) wr (.cells #[.int .i64 cert, .slice pa paths.length pc] 98);have OX := zb (zf wr (.cells #[.int .i64 cert, .slice pa paths.length pc] 98));have CX := zb (CN.out.chg kx);clear hcl hy hpa j0 j1 kx CN EQ STOP GO END IE1 IE2 IE3 RI CE2;go_upto_region 6 with fail;clear i0 i1;generalize wr.alloc (.cells #[.int .i64 cert, .slice pa paths.length pc] 98) = wx at *;generalize wr.heap.size = bx at *;have x0 := ze (o := 0) OX.out rfl;by_cases hc0 : cert < 0
   ·have g2 : decide (cert < 0) = true := decide_eq_true hc0
    have E := zb (ERR.out 1 (J1.out (.inl hc0)) (by decide));clear hc0;go_wp2;go_ret;exact ⟨by rw [E.out]; rfl, CX.out.ch⟩
   have g2 : decide (cert < 0) = false := decide_eq_false hc0;obtain ⟨c, rfl⟩ : ∃ c : Nat, cert = (c : Int) := ⟨cert.toNat, by omega⟩;by_cases hc1 : c < P.length
   rotate_left
   ·have g3 : decide ((P.length : Int) <= (c : Int)) = true := decide_eq_true (by omega)
    have g4 : decide (P.length <= c) = true := decide_eq_true (by omega);have E := zb (ERR.out 1 (J1.out (.inr (by omega))) (by decide));go_wp2;go_ret;exact ⟨by rw [E.out]; rfl, CX.out.ch⟩
   have g3 : decide ((P.length : Int) <= (c : Int)) = false := decide_eq_false (by omega);have g4 : decide (P.length <= c) = false := decide_eq_false (by omega);obtain ⟨pq, hpq⟩ : ∃ pq, P[c]? = some pq := ⟨_, List.getElem?_eq_getElem hc1⟩;have hnot : ¬ ((c : Int) < 0 ∨ (P.length : Int) <= (c : Int)) := by omega
   clear hc0;have sc0 : wx.cell? ⟨gs, c, none⟩ = some (.bool (decide (c ∈ seen))) := ze (o := c) CX.out.sn (by rw [List.getElem?_toArray]; exact xC hc1);by_cases hse : c ∈ seen
   ·have E := zb (ERR.out 11 (J2.out hnot (by simpa using hse)) (by decide))
    rw [decide_eq_true hse] at sc0;clear hse hnot hpq;go_wp2;go_ret;exact ⟨by rw [E.out]; rfl, CX.out.ch⟩
   rw [decide_eq_false hse] at sc0;have I3 := zb (J3.out c pq rfl hpq hse);have RIC := zb (RIY.out c pq rfl hpq);have fz := zk (o := c) CX.out.sn;have kset := zE wx gs c (.bool true);have CS := zb (CX.out.see hc1);have OS := zb (kset.obj (fun e => Zd OX.out CX.out.sn (by decide) e) OX.out);obtain ⟨_, _, e1, _, hcv⟩ := HV.out;cases e1;obtain ⟨cg, co, ca, ccp, rfl, hcg, ecv, cw0, cw1, cw2, cw3, cw4, cw5, cw6, hca⟩ := hcv c pq hpq;have CA := zb hca;obtain ⟨⟨ck, sg, sp, fr, cf, ct, cn⟩, cv⟩ := pq;simp only at cw0 cw1 cw2 cw3 cw4 cw5 cw6 CA I3 RIC ecv;have m0 := zi CS.out.ch (fun e => e) cw0;have m1 := zi CS.out.ch (fun e => e) cw1;have m2 := zi CS.out.ch (fun e => e) cw2;have m3 := zi CS.out.ch (fun e => e) cw3;have m4 := zi CS.out.ch (fun e => e) cw4;have m5 := zi CS.out.ch (fun e => e) cw5;have m6 := zi CS.out.ch (fun e => e) cw6;have xs0 := ze (o := 0) OS.out rfl;have kc := zh (fun _ => False) (wx.setCell ⟨gs, c, none⟩ (.bool true)) (.cells #[.int .i64 ck, .int .u16 (sg : Int), .string sp, .slice ca fr.length ccp, .int .i64 cf, .int .i64 ct, .int .i64 cn] 64);have oc0 := zf (wx.setCell ⟨gs, c, none⟩ (.bool true)) (.cells #[.int .i64 ck, .int .u16 (sg : Int), .string sp, .slice ca fr.length ccp, .int .i64 cf, .int .i64 ct, .int .i64 cn] 64);have hsz : (wx.setCell ⟨gs, c, none⟩ (.bool true)).heap.size = wx.heap.size := by simp [World.setCell]
   rw [hsz] at oc0;have OC := zb oc0;clear oc0 hsz;have CC := zb (CS.out.chg kc);have OXC := zb (kc.obj (fun e => e) OS.out);have CK := zde ((wx.setCell ⟨gs, c, none⟩ (.bool true)).alloc (.cells #[.int .i64 ck, .int .u16 (sg : Int), .string sp, .slice ca fr.length ccp, .int .i64 cf, .int .i64 ct, .int .i64 cn] 64)) ⟨ck, sg, sp, fr, cf, ct, cn⟩ ca ccp (· < w.heap.size) (CA.out.chg CC.out.ch (fun _ _ e => e));unfold xf xQ at CK;have CK := zb CK;clear hcv hca ecv cw0 cw1 cw2 cw3 cw4 cw5 cw6 kset kc CX OX CS OS hse hnot hpq J1 J2 J3 RIY;go_wp2_with fail;clear x0 sc0 fz m0 m1 m2 m3 m4 m5 m6 xs0;generalize (wx.setCell ⟨gs, c, none⟩ (.bool true)).alloc (.cells #[.int .i64 ck, .int .u16 (sg : Int), .string sp, .slice ca fr.length ccp, .int .i64 cf, .int .i64 ct, .int .i64 cn] 64) = wc at *;generalize wx.heap.size = bc at *;(with_reducible refine CK.out.mono ?_);rintro e w5 ⟨⟨z, rfl, hz⟩, k5⟩;have C5 := zb (CC.out.chg k5);have OC5 := zb (k5.obj (fun e => e) OC.out);have OX5 := zb (k5.obj (fun e => e) OXC.out);have ZZ := zb hz;clear CK k5 CC OC OXC hz;have r0 := ze (o := 0) OC5.out rfl;have r3 := ze (o := 3) OC5.out rfl;have y1 := ze (o := 1) OX5.out rfl;cases hcb : ZG ⟨ck, sg, sp, fr, cf, ct, cn⟩ with
   | false =>
    have g5 : (z != 0) = true := by
     rw [bne_iff_ne];intro e;have := ZZ.out.1 e;rw [hcb] at this;cases this
    have E := zb (ERR.out 2 (by rw [I3.out, if_neg (by rw [hcb]; intro h; cases h.1)]) (by decide));clear hcb;go_wp2;go_ret;exact ⟨by rw [E.out]; rfl, C5.out.ch⟩
   | true =>
   obtain rfl : z = 0 := ZZ.out.2 hcb;have HCB := zb hcb;clear hcb ZZ
   have hfr : fr.length <= 16 := by
    obtain ⟨_, q, _⟩ := of_decide_eq_true (zai HCB.out).fr;rwa [Zf] at q
   by_cases hlen : paths.length = fr.length
   rotate_left
   ·have g6 : ((paths.length : Int) != (fr.length : Int)) = true := by rw [bne_iff_ne]; omega
    have g7 : (paths.length != fr.length) = true := by rw [bne_iff_ne]; exact hlen
    have E := zb (ERR.out 2 (by rw [I3.out, if_neg (fun h => hlen h.2)]) (by decide));clear hlen;go_wp2;go_ret;exact ⟨by rw [E.out]; rfl, C5.out.ch⟩
   have g6 : ((paths.length : Int) != (fr.length : Int)) = false := by rw [bne_eq_false_iff_eq]; omega
   have g7 : (paths.length != fr.length) = false := by rw [bne_eq_false_iff_eq]; exact hlen
   have I4 := zb (show IE Rk seen ⟨(c : Int), paths⟩ = if YT Rk ⟨ck, sg, sp, fr, cf, ct, cn⟩ paths = true then 0 else 13 from by rw [I3.out, if_pos ⟨HCB.out, hlen⟩]);have HLEN := zb hlen;have hl1 : paths.length <= fr.length := by omega
   have hl2 : fr.length <= paths.length := by omega
   clear hlen I3;have r1 := ze (o := 1) OC5.out rfl;have ks := zh (fun _ => False) w5 (.cells #[.int .u16 (sg : Int)] 62);have WO := zb (zba (w5.alloc (.cells #[.int .u16 (sg : Int)] 62)) w5.heap.size 0 1 sg CA.out.sg (ze (zf w5 (.cells #[.int .u16 (sg : Int)] 62)) rfl));have C6 := zb (C5.out.chg ks);have OC6 := zb (ks.obj (fun e => e) OC5.out);have OX6 := zb (ks.obj (fun e => e) OX5.out);clear ks C5 OC5 OX5;go_wp2_with fail;clear r0 r1 r3 y1;generalize w5.alloc (.cells #[.int .u16 (sg : Int)] 62) = w6 at *;(with_reducible refine WO.out.mono ?_);rintro e w7 ⟨rfl, k7⟩;have C7 := zb (C6.out.chg k7);have OC7 := zb (k7.obj (fun e => e) OC6.out);have OX7 := zb (k7.obj (fun e => e) OX6.out);have y1 := ze (o := 1) OX7.out rfl;clear WO k7 C6 OC6 OX6;go_wp2_with fail;clear y1;go_loopw [74] (fun jv wr => ∃ j : Nat, j <= paths.length ∧ jv = .int .i64 j ∧ Hid (Chg (fun _ => False) w7 wr ∧ ∀ (i : Nat) xx l, i < j -> fr[i]? = some xx -> paths[i]? = some l -> ZA Rk xx (Zw sg) l = true)) (fun jv _ => paths.length - (intOf jv).toNat)
   case atStart => exact ⟨0, by omega, rfl, zb ⟨Chg.refl _ _, fun i xx l hi => by omega⟩⟩
   case round =>
    obtain ⟨j, hj, rfl, HJ⟩ := hrel;have KJ := zb HJ.out.1;have ALL := zb HJ.out.2;have CJ := zb (C7.out.chg KJ.out);have OCJ := zb (KJ.out.obj (fun e => e) OC7.out);clear HJ;by_cases hjl : j < paths.length
    ·as_aux_lemma =>
     obtain ⟨l, hl⟩ : ∃ l, paths[j]? = some l := ⟨_, List.getElem?_eq_getElem hjl⟩;have hjf : j < fr.length := by omega
     obtain ⟨xx, hxx⟩ : ∃ xx, fr[j]? = some xx := ⟨_, List.getElem?_eq_getElem hjf⟩;obtain ⟨_, _, e1, _, hcl⟩ := HPA.out;cases e1;obtain ⟨lb2, lo2, pv2, rfl, _, q0', hst⟩ := hcl j l hl;obtain ⟨qa, qc, rfl⟩ := hst.shape;have q0 := zi CJ.out.ch (fun e => e) q0';obtain ⟨_, _, e2, _, hwl⟩ := CA.out.set.at_;cases e2;obtain ⟨wg, wo, rfl, _, u0', hxs⟩ := hwl j xx hxx;have u0 := zi CJ.out.ch (fun e => e) u0';have r3 := ze (o := 3) OCJ.out rfl;have LD := zb (zc3 wr (.slice a3 Rk.length c3) (.slice qa l.length qc) Rk l xx (Zw sg) (ZY CJ.out.row RS.out) ((hst.chg CJ.out.ch (fun _ _ e => e)).at_.up13 (fun k hk => Nat.lt_of_lt_of_le hk CJ.out.ch.size)) hxs);have BAD := zb (fun (q : ZA Rk xx (Zw sg) l = false) => ERR.out 13 (by rw [I4.out, if_neg (by rw [zfn hxx hl q]; decide)]) (by decide))
     have GOOD := zb (fun (q : ZA Rk xx (Zw sg) l = true) => show ∀ (i : Nat) yy m, i < j + 1 -> fr[i]? = some yy -> paths[i]? = some m -> ZA Rk yy (Zw sg) m = true from fun i yy m hi hyy hm => by
      rcases Nat.lt_or_ge i j with z | z
      ·exact ALL.out i yy m z hyy hm
      ·obtain rfl : i = j := by omega
       rw [hxx] at hyy; rw [hl] at hm; cases hyy; cases hm; exact q)
     generalize ZA Rk xx (Zw sg) l = bq at LD BAD GOOD;clear hcl hl hst q0' hwl hxx u0' hxs ALL;go_wp2_with fail;(with_reducible refine LD.out.mono ?_);rintro e w8 ⟨rfl, k8⟩;have K8 := zb (KJ.out.trans k8);have CH8 := zb (CJ.out.ch.trans k8);clear LD k8 q0 u0 r3;cases bq with
     | false =>
      have E := zb (BAD.out rfl);go_wp2;go_ret;exact ⟨by rw [E.out]; rfl, CH8.out⟩
     | true =>
      have E := zb (GOOD.out rfl);go_wp2;go_roundw
      case rel => exact ⟨j + 1, by omega, by go_num, zb ⟨K8.out, E.out⟩⟩
      case measure => simp [intOf]; omega
    ·as_aux_lemma =>
     obtain rfl : j = paths.length := by omega
     have OK := zb (NEXT.out (by
      rw [I4.out, if_pos];exact zfm (fun i xx l hxx hl => ALL.out i xx l (List.getElem?_eq_some_iff.1 hl).1 hxx hl) HLEN.out))
     have CR := zea wr ⟨ck, sg, sp, fr, cf, ct, cn⟩ ca ccp (· < w.heap.size) (CA.out.chg CJ.out.ch (fun _ _ e => e)) (by simp only; omega);unfold xf at CR;have CR := zb CR;have CSZ := zb (zfP CA.out);have CRL := Xv ⟨ck, sg, sp, fr, cf, ct, cn⟩;simp only at CRL;have hcrl : (ZE ⟨ck, sg, sp, fr, cf, ct, cn⟩).length <= 1000 := by omega
     obtain ⟨M, hM⟩ : ∃ M, M = ZE (⟨ck, sg, sp, fr, cf, ct, cn⟩ : zn) := ⟨_, rfl⟩;rw [<- hM] at CR CSZ RIC hcrl;clear CRL hM ALL;have r0 := ze (o := 0) OCJ.out rfl;have r1 := ze (o := 1) OCJ.out rfl;have r2 := ze (o := 2) OCJ.out rfl;have r3 := ze (o := 3) OCJ.out rfl;have r4 := ze (o := 4) OCJ.out rfl;have r5 := ze (o := 5) OCJ.out rfl;have r6 := ze (o := 6) OCJ.out rfl;go_wp2_with fail;clear r0 r1 r2 r3 r4 r5 r6;(with_reducible refine CR.out.mono ?_);rintro e w8 ⟨v8, rfl, o8, k8⟩;obtain ⟨a8, c8, rfl⟩ := zl o8;have C8 := zb (CJ.out.chg k8);have O8 := zb o8;have SRC := zb (XT (ZY o8 CSZ.out));clear CR k8 o8 CJ;have hb8 : w.heap.size <= w8.heap.size := C8.out.ch.size;have hkb := Nat.mul_le_mul_right 1000 hk;go_wp2_with (at_builtin; refine zN rfl (.tmp 90) (.tmp 92) 22 rfl 66 2 32 Tryz.underlying22 Tryz.elemRule w.heap.size (.slice a3 Rk.length c3) Rk.length (zw Rk) rfl C8.out.row a8 M.length c8 (zw M) rfl ?a1 ?a2 ?a3 ?a4 ?a5 ?a6 ?a7 ?nx1)
     case a1 => exact ZQ M
     case a2 => exact SRC.out
     case a3 =>
      intro e;subst e;exact zgQ O8.out
     case a4 => exact Ye M
     case a5 => omega
     case a6 => unfold maxLen; omega
     case a7 => exact hb8
     intro v9 w9 o9 g9;obtain ⟨a9, c9, rfl⟩ := zl o9;have C9 := zb (C8.out.more g9 o9);clear o9 g9 C8 O8 SRC;go_wp2;go_roundw
     case rel =>
      exact ⟨k + 1, Rk ++ M, seen ++ [c], by omega, by rw [List.length_append]; omega, by go_num, zb ⟨C9.out, fun r hr => by
       rcases List.mem_append.1 hr with q | q
       ·exact RS.out r q
       ·exact CSZ.out r q, by rw [OK.out, RIC.out]; simp⟩⟩
     case measure => simp [intOf]; omega
  ·as_aux_lemma =>
   obtain rfl : k = p.items.length := by omega
   have E := zb (show res = if ZA Rk x u p.steps = true then 0 else 13 from by rw [CE2.out, EQ.out, END.out]; rfl);have q1 := ze (o := 1) CN.out.box rfl;have LD := zb (zc3 wr (.slice a3 Rk.length c3) (.slice sa p.steps.length sc) Rk p.steps x u (ZY CN.out.row RS.out) ((HP.out.steps.chg CN.out.ch (fun _ _ e => e)).at_.up13 (fun k hk => Nat.lt_of_lt_of_le hk CN.out.ch.size)) HX.out);generalize ZA Rk x u p.steps = bq at *;go_wp2_with fail;(with_reducible refine LD.out.mono ?_);rintro e w5 ⟨rfl, k5⟩;have K5 := zb (CN.out.ch.trans k5);clear LD k5 q1;cases bq with
   | true =>
    go_wp2;go_ret;exact ⟨by rw [E.out]; rfl, K5.out⟩
   | false =>
    go_wp2;go_ret;exact ⟨by rw [E.out]; rfl, K5.out⟩
def zof (roots : Int) (B : List Nat) (l : zG) (i : Nat) : Prop := ∃ s ∈ l, XE roots B s.2 = some i
def zog (roots : Int) (B : List Nat) (x : zF) (i : Nat) : Prop := ∃ l ∈ x.paths, zof roots B l i
def zor (roots : Int) (B : List Nat) (I : List zF) : Prop := ∀ (k : Nat) x i, I[k]? = some x -> zog roots B x i -> i < k
def Xm (C : List zn) (I : List zF) (k : Nat) : List zA := (I.take k).flatMap (xy C)
def xD (I : List zF) (k : Nat) : List Nat := (I.take k).map fun x => x.cert.toNat
structure zhm (R : List zA) (C : List zn) (p : zS) (x u : ByteArray) : Prop where
 items : ∀ (k : Nat) y, p.items[k]? = some y -> za0 (R ++ Xm C p.items k) C (xD p.items k) y = 0
 last : ZA (R ++ Xm C p.items p.items.length) x u p.steps = true
theorem zen (C : List zn) (x : zF) : (xy C x).length = zeG C x.cert := by
 unfold xy zeG;cases C[x.cert.toNat]? with
 | none => rfl
 | some c => simp only; unfold ZE; rw [List.length_map]
theorem zfc {C : List zn} {I : List zF} {k : Nat} {x : zF} (h : I[k]? = some x) : Xm C I (k + 1) = Xm C I k ++ xy C x := by
 unfold Xm;rw [List.take_add_one, h, List.flatMap_append];simp
theorem zaJ (C : List zn) (I : List zF) (k : Nat) : (Xm C I k).length = tot C I k := by
 unfold Xm tot;rw [List.length_flatMap]
 congr 1
 exact List.map_congr_left fun x _ => zen C x
theorem zd3 {R : List zA} {C : List zn} {seen : List Nat} {x : zF} : za0 R C seen x = 0 ↔ 0 <= x.cert ∧ x.cert < C.length ∧ x.cert.toNat ∉ seen ∧ ∃ c, C[x.cert.toNat]? = some c ∧ ZG c = true ∧ x.paths.length = c.fr.length ∧ YT R c x.paths = true := by
 unfold za0;by_cases h1 : x.cert < 0 ∨ (C.length : Int) <= x.cert
 ·rw [if_pos h1]
  exact ⟨fun e => (by cases e), fun ⟨a, b, _⟩ => by omega⟩
 rw [if_neg h1];by_cases h2 : x.cert.toNat ∈ seen
 ·rw [if_pos h2]
  exact ⟨fun e => (by cases e), fun ⟨_, _, c, _⟩ => absurd h2 c⟩
 rw [if_neg h2];obtain ⟨c, hc⟩ : ∃ c, C[x.cert.toNat]? = some c := ⟨_, List.getElem?_eq_getElem (by omega)⟩;rw [hc];simp only;by_cases h3 : ZG c = true ∧ x.paths.length = c.fr.length
 ·rw [if_pos h3]
  by_cases h4 : YT R c x.paths = true
  ·rw [if_pos h4]
   exact ⟨fun _ => ⟨by omega, by omega, h2, c, rfl, h3.1, h3.2, h4⟩, fun _ => rfl⟩
  ·rw [if_neg h4]
   exact ⟨fun e => (by cases e), fun ⟨_, _, _, d, hd, _, _, q⟩ => by cases hd; exact absurd q h4⟩
 ·rw [if_neg h3]
  exact ⟨fun e => (by cases e), fun ⟨_, _, _, d, hd, q1, q2, _⟩ => by cases hd; exact absurd ⟨q1, q2⟩ h3⟩
theorem zjZ {R : List zA} {c : zn} {ps : List zG} (h : YT R c ps = true) {j : Nat} {x : ByteArray} {l : zG} (h1 : c.fr[j]? = some x) (h2 : ps[j]? = some l) : ZA R x (Zw c.sg) l = true := by
 unfold YT at h;have := List.all_eq_true.1 h j (List.mem_range.2 (List.getElem?_eq_some_iff.1 h2).1);rwa [List.getD_eq_getElem?_getD, List.getD_eq_getElem?_getD, h1, h2] at this
theorem zjY {R : List zA} {c : zn} {ps : List zG} (hl : ps.length = c.fr.length) (h : ∀ (j : Nat) x l, c.fr[j]? = some x -> ps[j]? = some l -> ZA R x (Zw c.sg) l = true) : YT R c ps = true := by
 unfold YT;rw [List.all_eq_true];intro j hj;rw [List.mem_range] at hj;obtain ⟨l, h2⟩ : ∃ l, ps[j]? = some l := ⟨_, List.getElem?_eq_getElem hj⟩;obtain ⟨x, h1⟩ : ∃ x, c.fr[j]? = some x := ⟨_, List.getElem?_eq_getElem (by omega)⟩;rw [List.getD_eq_getElem?_getD, List.getD_eq_getElem?_getD, h1, h2];exact h j x l h1 h2
theorem zlp {R : List Rul} {w u : Wd} {s : Int × Int} (h : YP R w s = some u) : 0 <= s.2 ∧ s.2 < R.length := by
 unfold YP at h;split at h
 ·rename_i q; exact ⟨q.1, q.2.1⟩
 ·cases h
theorem zjo {R : List Rul} : ∀ {l : zG} {w u : Wd}, Yz R w l = some u -> ∀ s ∈ l, 0 <= s.2 ∧ s.2 < R.length
 | [], w, u, _, s, hs => by cases hs
 | x :: t, w, u, h, s, hs => by
  unfold Yz at h;cases hx : YP R w x with
  | none => rw [hx] at h; cases h
  | some v =>
   rw [hx] at h;rcases List.mem_cons.1 hs with rfl | hs
   ·exact zlp hx
   ·exact zjo h s hs
theorem zfA {R : List zA} {x u : ByteArray} {l : zG} : ZA R x u l = true ↔ Zm x.data.toList = true ∧ ∃ y, Yz (R.map Zo) x.data.toList l = some y ∧ bar y = u := by
 unfold ZA;rw [Bool.and_eq_true];cases Yz (R.map Zo) x.data.toList l with
 | none => exact ⟨fun ⟨_, h⟩ => (by cases h), fun ⟨_, _, h, _⟩ => by cases h⟩
 | some y => exact ⟨fun ⟨h1, h2⟩ => ⟨h1, y, rfl, of_decide_eq_true h2⟩, fun ⟨h1, z, h2, h3⟩ => ⟨h1, by cases h2; exact decide_eq_true h3⟩⟩
theorem zhO {R : List zA} {x u : ByteArray} {l : zG} (h : ZA R x u l = true) : ∀ s ∈ l, 0 <= s.2 ∧ s.2 < R.length := by
 obtain ⟨_, y, hy, _⟩ := zfA.1 h;intro s hs;have := zjo hy s hs;rwa [List.length_map] at this
section
variable {R : List zA} {C : List zn} {p : zS} {x u : ByteArray}
theorem zhm.cutOk (h : zhm R C p x u) : xG R.length C p := by
 refine ⟨by omega, fun k y hy => ?_, ?_⟩
 ·obtain ⟨h1, h2, _, c, hc, _, h4, h5⟩ := zd3.1 (h.items k y hy)
  unfold zeD;simp only [Bool.and_eq_true, decide_eq_true_eq, List.all_eq_true];refine ⟨h1, h2, fun l hl => ?_⟩;obtain ⟨j, hj⟩ := List.mem_iff_getElem?.1 hl;obtain ⟨z, hz⟩ : ∃ z, c.fr[j]? = some z := ⟨_, List.getElem?_eq_getElem (by have := (List.getElem?_eq_some_iff.1 hj).1; omega)⟩;have := zhO (zjZ h5 hz hj);unfold yz;rw [List.all_eq_true];intro s hs;have h6 := this s hs;rw [List.length_append, zaJ] at h6;unfold xr;simp only [Bool.and_eq_true, decide_eq_true_eq];omega
 ·unfold yz
  rw [List.all_eq_true];intro s hs;have h6 := zhO h.last s hs;rw [List.length_append, zaJ] at h6;unfold xr;simp only [Bool.and_eq_true, decide_eq_true_eq];omega
end
section
variable {R : List zA} {C : List zn} {b : Int} {s : ASt} {x u : ByteArray}
theorem zhJ (h : zaP R C b s) {k : Nat} {y : zF} (hy : (yq R C b s x u).items[k]? = some y) : ∃ i c, s.order[k]? = some i ∧ i < C.length ∧ C[i]? = some c ∧ y = ⟨(i : Int), XZ (R ++ zU C (s.order.take k)) b c⟩ := by
 unfold yq zaL at hy;simp only at hy;rw [List.getElem?_map] at hy;obtain ⟨k2, hk2, hy2⟩ := Option.map_eq_some_iff.1 hy;obtain ⟨h1, h2⟩ := List.getElem?_eq_some_iff.1 hk2;rw [List.length_range] at h1;rw [List.getElem_range] at h2;subst h2;obtain ⟨i, hi⟩ : ∃ i, s.order[k]? = some i := ⟨_, List.getElem?_eq_getElem h1⟩;have hic := h.lt i (List.mem_of_getElem? hi);obtain ⟨c, hc⟩ : ∃ c, C[i]? = some c := ⟨_, List.getElem?_eq_getElem hic⟩;rw [zeC hi hc] at hy2;exact ⟨i, c, hi, hic, hc, hy2.symm⟩
theorem XJ : (yq R C b s x u).items.length = s.order.length := by
 unfold yq zaL;simp only;rw [List.length_map, List.length_range]
theorem zeh (h : zaP R C b s) : ∀ {k : Nat}, k <= s.order.length -> Xm C (yq R C b s x u).items k = zU C (s.order.take k) ∧ xD (yq R C b s x u).items k = s.order.take k
 | 0, _ => by unfold Xm xD zU; simp
 | k + 1, hk => by
  obtain ⟨h1, h2⟩ := zeh h (k := k) (by omega);obtain ⟨y, hy⟩ : ∃ y, (yq R C b s x u).items[k]? = some y := ⟨_, List.getElem?_eq_getElem (by rw [XJ]; omega)⟩;obtain ⟨i, c, hi, _, hc, e⟩ := zhJ h hy;rw [zfc hy, h1, List.take_add_one, hi];constructor
  ·show _ = zU C (s.order.take k ++ [i])
   rw [XU hc]
   congr 1
   unfold xy;rw [e];simp only [Int.toNat_natCast, hc]
  ·unfold xD at h2 ⊢
   rw [List.take_add_one, hy, List.map_append, h2, e];rfl
theorem ziL (hacc : Zj R C b = .ok s) (ht : yx s.rules x u b = 0) : zhm R C (yq R C b s x u) x u := by
 have F := (zaC hacc).1;have hall := (zdl hacc).1
 have lead : ∀ {Q : List zA} {f t : ByteArray}, yx Q f t b = 0 -> ZA Q f t (XO Q f t b) = true := fun {Q f t} hq => by
  obtain ⟨m1, _, l, e, _, hw⟩ := zdN hq;refine zfA.2 ⟨m1, t.data.toList, ?_, ?_⟩
  ·rw [e]
   have := zcG (Q.map Zo) l f.data.toList;unfold zkI;rw [this];exact hw
  ·unfold bar; simp
 refine ⟨fun k y hy => ?_, ?_⟩
 ·have hk : k < s.order.length := by rw [<- XJ (R := R) (C := C) (b := b) (x := x) (u := u)]; exact (List.getElem?_eq_some_iff.1 hy).1
  obtain ⟨h1, h2⟩ := zeh (x := x) (u := u) F.inv (Nat.le_of_lt hk);obtain ⟨i, c, hi, hil, hc, rfl⟩ := zhJ F.inv hy;rw [h1, h2];have hl : (XZ (R ++ zU C (s.order.take k)) b c).length = c.fr.length := by unfold XZ; rw [List.length_map]
  refine zd3.2 ⟨by simp only; omega, by simp only; omega, ?_, c, by simp only [Int.toNat_natCast]; exact hc, List.all_eq_true.1 hall c (List.mem_of_getElem? hc), hl, zjY hl fun j w l hw hlj => ?_⟩
  ·simp only [Int.toNat_natCast]
   intro hm;obtain ⟨j, hj⟩ := List.mem_iff_getElem?.1 hm;rw [List.getElem?_take] at hj;split at hj
   ·rename_i hjk
    obtain ⟨q1, q2⟩ := List.getElem?_eq_some_iff.1 hj;obtain ⟨q3, q4⟩ := List.getElem?_eq_some_iff.1 hi;exact absurd (q2.trans q4.symm) (List.pairwise_iff_getElem.1 F.inv.nd j k q1 q3 hjk)
   ·cases hj
  ·have hlj' : (c.fr.map fun f => XO (R ++ zU C (s.order.take k)) f (Zw c.sg) b)[j]? = some l := hlj
   rw [List.getElem?_map, hw] at hlj';cases hlj';exact lead (zfW (F.inv.just k i c hi hc) w (List.mem_of_getElem? hw))
 ·have h1 := (zeh (x := x) (u := u) F.inv (Nat.le_refl _)).1
  rw [XJ, h1, List.take_length, <- F.inv.rules];exact lead ht
theorem zj9 (hacc : Zj R C b = .ok s) (ht : yx s.rules x u b = 0) : XF R C x u b = (0, zkE R.length C (yq R C b s x u)) := by
 unfold XF;rw [hacc];simp only;rw [if_pos ht, if_pos (ziL hacc ht).cutOk]
end
def toB (c : List ByteArray) (t : Int) : Bool := decide (0 <= t) && decide (t < c.length)
def yJ (R : List zA) (C : List zn) (c : List ByteArray) : List ByteArray -> List Int -> List zS -> Int
 | w :: W, t :: T, p :: P => if yM R C p w (c.getD t.toNat ⟨#[]⟩) = 0 then yJ R C c W T P else yM R C p w (c.getD t.toNat ⟨#[]⟩)
 | _, _, _ => 0
theorem zca {R : List zA} {C : List zn} {c W : List ByteArray} {T : List Int} {P : List zS} {k : Nat} {w : ByteArray} {t : Int} {p : zS} (h1 : W[k]? = some w) (h2 : T[k]? = some t) (h3 : P[k]? = some p) :
  yJ R C c (W.drop k) (T.drop k) (P.drop k) = if yM R C p w (c.getD t.toNat ⟨#[]⟩) = 0 then yJ R C c (W.drop (k + 1)) (T.drop (k + 1)) (P.drop (k + 1)) else yM R C p w (c.getD t.toNat ⟨#[]⟩) := by
 rw [List.drop_eq_getElem_cons (List.getElem?_eq_some_iff.1 h1).1, List.drop_eq_getElem_cons (List.getElem?_eq_some_iff.1 h2).1, List.drop_eq_getElem_cons (List.getElem?_eq_some_iff.1 h3).1, (List.getElem?_eq_some_iff.1 h1).2, (List.getElem?_eq_some_iff.1 h2).2, (List.getElem?_eq_some_iff.1 h3).2, yJ]
def atB (L : List zW) (op i : Int) : Bool := decide (0 <= i) && (decide (i < L.length) && decide ((L.map (·.1)).getD i.toNat (op + 1) = op))
def zeU (R : List zA) (C : List zn) (L : List zW) (op : Int) (c : List ByteArray) (y : zdq) : Int :=
 if Yj C L c = true then (if 0 <= op ∧ op < 8 then (if atB L op y.entry = true ∧ (y.ways.length = (ze4 L y.entry).length ∧ y.proofs.length = (ze4 L y.entry).length) ∧ y.ways.all (toB c) = true then yJ R C c (ze4 L y.entry) y.ways y.proofs else 10) else 1) else 2
theorem zkR {L : List zW} {op i : Int} : atB L op i = true ↔ 0 <= i ∧ ∃ x, L[i.toNat]? = some x ∧ x.1 = op := by
 unfold atB;rw [Bool.and_eq_true, Bool.and_eq_true, decide_eq_true_iff, decide_eq_true_iff, decide_eq_true_iff];constructor
 · rintro ⟨h1, h2, h3⟩
   have hl : i.toNat < L.length := by omega
   refine ⟨h1, _, List.getElem?_eq_getElem hl, ?_⟩;rw [List.getD_eq_getElem?_getD, List.getElem?_map, List.getElem?_eq_getElem hl] at h3;exact h3
 · rintro ⟨h1, x, h2, h3⟩
   have hl := (List.getElem?_eq_some_iff.1 h2).1;refine ⟨h1, by omega, ?_⟩;rw [List.getD_eq_getElem?_getD, List.getElem?_map, h2];exact h3
theorem zgo {L : List zW} {i : Int} {x : zW} (h : L[i.toNat]? = some x) : ze4 L i = x.2 := by unfold ze4; rw [h]
theorem zex : ∀ {l L : List zW}, zc1 L l = 0 -> ∀ x ∈ l, XR x.2 = true
 | [], L, _, x, hx => by cases hx
 | y :: l, L, h, x, hx => by
  unfold zc1 at h;by_cases h0 : zan y L = 0
  · rw [if_pos h0] at h
    rcases List.mem_cons.1 hx with rfl | hx
    · exact (zbt.1 (zf4 h0).1).2
    · exact zex h x hx
  · rw [if_neg h0] at h; exact absurd h h0
section
variable {R : List zA} {C : List zn} {L : List zW} {op : Int} {c : List ByteArray} {b : Int}
theorem zfF {d : zeW} {i : Nat} {x : zW} (G : zhn R C L op c b d i x) {w : ByteArray} (hw : w ∈ x.2) (hs : d.short = false) : ∃ s v, Zj R C b = .ok s ∧ d.rules = s.rules ∧ c[toW d b c w]? = some v ∧ yx s.rules w v b = 0 ∧ XF R C w (c.getD (toW d b c w) ⟨#[]⟩) b = (0, zkE R.length C (yq R C b s w v)) := by
 obtain ⟨k1, k2, k3⟩ := zbW G hw;obtain ⟨v, hv⟩ : ∃ v, c[toW d b c w]? = some v := ⟨_, List.getElem?_eq_getElem k1⟩;have hl := k3 v hv;have hg : c.getD (toW d b c w) ⟨#[]⟩ = v := by rw [List.getD_eq_getElem?_getD, hv]; rfl
 rcases G.way with ⟨q1, _⟩ | ⟨_, s, q2, q3, q4⟩
 · rw [hs] at q1; cases q1
 unfold zaY at hl;rw [if_neg (by rw [hs]; decide)] at hl;have hr := k2 hs;rw [q3] at hl hr
 have ht : yx s.rules w v b = 0 := by
  have := (zjt hr).1 hl;unfold zci at this;rw [if_pos hr, decide_eq_true_iff] at this;unfold yx;rw [if_pos hr, if_pos this]
 exact ⟨s, v, q2, q3, hv, ht, by rw [hg]; exact zj9 q2 ht⟩
end
end Go.Proofs.YthdfplafihmejaaGreat
