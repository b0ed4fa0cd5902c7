/-
  Package proof: what Make answers, in plain Lean; the path's contract with a row of its own. Package proof: Make.
-/
import Derived.Test.YthdfplafihmejaaGreatZcQCut
import Derived.Test.YthdfplafihmejaaGreatZcQReach
import Derived.Test.YthdfplafihmejaaGreatZcURun
namespace Go.Proofs.YthdfplafihmejaaGreat
open Go.RowKit Go.Maps
def zkI (h : Nat × Nat) : Int × Int := ((h.1 : Int), (h.2 : Int))
theorem zgB (l : List (Nat × Nat)) : ZU (l.map zkI) = yt l := by unfold ZU yt; rw [List.flatMap_map]; rfl
theorem zcF {R : List Rul} : ∀ {l : List (Nat × Nat)} {w u : Wd}, Zm w = true -> zbI R w l = some u -> Zm u = true ∧ ∀ h ∈ l, h.1 <= 8 ∧ h.2 < R.length
 | [], w, u, hw, hu => by cases hu; exact ⟨hw, fun h hh => by cases hh⟩
 | (a, k) :: t, w, u, hw, hu => by
  unfold zbI at hu;split at hu
  ·rename_i hm
   have hs := zcM.2 hm
   have h1 : YP R w ((a : Int), (k : Int)) = some (zdt R w (a, k)) := by
    unfold YP;rw [if_pos hs];simp only [Int.toNat_natCast]
   obtain ⟨m1, m2⟩ := zcF (zcN hw h1).1 hu;obtain ⟨_, s2, _, s4, s5, _⟩ := hs;simp only at s2 s4 s5;have h8 := (zcv.1 hw).2.2;refine ⟨m1, fun h hh => ?_⟩;rcases List.mem_cons.1 hh with rfl | hh
   ·exact ⟨by simp only; omega, by simp only; omega⟩
   ·exact m2 h hh
  ·cases hu
theorem zdN {R : List zA} {s t : ByteArray} {b : Int} (h : yx R s t b = 0) : Zm s.data.toList = true ∧ R.length <= 400 ∧ ∃ l : List (Nat × Nat), XO R s t b = l.map zkI ∧ l.length <= 5000 ∧ zbI (R.map Zo) s.data.toList l = some t.data.toList := by
 unfold XO;rw [if_pos h];unfold yx at h;by_cases h0 : zQ R s b = 0
 ·rw [if_pos h0] at h
  obtain ⟨ha, r, hr⟩ := Zz h0;obtain ⟨m1, m2, m3, m4⟩ := yD ha;obtain ⟨s1, s2, s3⟩ := zbl (by omega) hr;have er : zga R s b = r := by unfold zga; rw [hr]; rfl
  rw [er] at h ⊢;by_cases hin : t.data.toList ∈ zx r
  ·obtain ⟨i1, i2⟩ := zid hin
   obtain ⟨p1, p2⟩ := zdW (zhC hr) _ i1;rw [i2] at p1;exact ⟨m1, m4, _, rfl, by omega, p1⟩
  ·rw [if_neg hin] at h
   cases h
 ·rw [if_neg h0] at h
  exact absurd h h0
theorem xp (R : List zA) (s t : ByteArray) (b : Int) : (XO R s t b).length <= 5000 ∧ ∀ x ∈ XO R s t b, 0 <= x.1 ∧ x.1 <= 8 ∧ 0 <= x.2 ∧ x.2 < R.length ∧ R.length <= 400 := by
 by_cases h : yx R s t b = 0
 ·obtain ⟨h1, hR, l, h2, h3, h4⟩ := zdN h
  rw [h2];refine ⟨by rw [List.length_map]; exact h3, fun x hx => ?_⟩;obtain ⟨y, hy, rfl⟩ := List.mem_map.1 hx;obtain ⟨q1, q2⟩ := (zcF h1 h4).2 y hy;rw [List.length_map] at q2;unfold zkI;simp only;omega
 ·unfold XO
  rw [if_neg h];exact ⟨Nat.zero_le _, fun x hx => by cases hx⟩
theorem ze7 (R : List zA) (s t : ByteArray) (b : Int) : yT (XO R s t b) := fun x hx => by
 have := (xp R s t b).2 x hx;unfold zbE;omega
theorem zfW {R : List zA} {b : Int} {c : zn} (h : xE R b c = (true, 0)) : ∀ f ∈ c.fr, yx R f (Zw c.sg) b = 0 := fun f hf => by
 obtain ⟨h1, h2⟩ := zh0.1 h f hf;unfold zci at h2;rw [if_pos h1, decide_eq_true_iff] at h2;unfold yx;rw [if_pos h1, if_pos h2]
section
variable {w : World} {v : Value} {R : List zA} {s : ByteArray} {b : Int}
theorem zhG (hA : zeX w v R s) (t : ByteArray) (ht : t.size <= maxLen) (h : yx R s t b = 0) : Calls Tryz.prog 123 #[v, .string s, .string t, .int .i64 b] w fun e w' => ∃ va, e = .returned (.tuple #[va, .int .i64 0]) ∧ w'.ownsRow w.heap.size 153 2 va (XO R s t b).length (ZU (XO R s t b)) ∧ Chg (fun _ => False) w w' := by
 unfold XO;rw [if_pos h];unfold yx at h;by_cases h0 : zQ R s b = 0
 ·rw [if_pos h0] at h
  obtain ⟨_, r, hr⟩ := Zz h0;have er : zga R s b = r := by unfold zga; rw [hr]; rfl
  rw [er] at h ⊢;by_cases hin : t.data.toList ∈ zx r
  ·have e2 := zgB (YV r ((zx r).idxOf t.data.toList))
   unfold zkI at e2;rw [e2, List.length_map];exact zm1 hA t ht h0 hr hin
  ·rw [if_neg hin] at h
   cases h
 ·rw [if_neg h0] at h
  exact absurd h h0
theorem zm2 (hA : zeX w v R s) (t : ByteArray) (ht : t.size <= maxLen) (h : yx R s t b ≠ 0) : Calls Tryz.prog 123 #[v, .string s, .string t, .int .i64 b] w fun e w' => e = .returned (.tuple #[.slice none 0 0, .int .i64 (yx R s t b)]) ∧ Chg (fun _ => False) w w' := by
 by_cases h0 : zQ R s b = 0
 ·obtain ⟨_, r, hr⟩ := Zz h0
  have er : zga R s b = r := by unfold zga; rw [hr]; rfl
  unfold yx at h ⊢;rw [if_pos h0, er] at h ⊢;by_cases hin : t.data.toList ∈ zx r
  ·rw [if_pos hin] at h
   exact absurd rfl h
  ·rw [if_neg hin]
   exact zj0 hA t ht h0 hr hin
 ·unfold yx
  rw [if_neg h0];exact zlC hA t rfl h0
end
def XZ (R : List zA) (b : Int) (c : zn) : List zG := c.fr.map fun f => XO R f (Zw c.sg) b
def zlO (C : List zn) (R : List zA) (b : Int) (O : List Nat) (k : Nat) : zF := ⟨(O.getD k 0 : Nat), match C[O.getD k 0]? with
 | some c => XZ (R ++ zU C (O.take k)) b c
 | none => []⟩
def zaL (C : List zn) (R : List zA) (b : Int) (O : List Nat) (n : Nat) : List zF := (List.range n).map (zlO C R b O)
theorem zg0 (C : List zn) (R : List zA) (b : Int) (O : List Nat) (n : Nat) : zaL C R b O (n + 1) = zaL C R b O n ++ [zlO C R b O n] := by
 unfold zaL;rw [List.range_succ, List.map_append]; rfl
theorem zeC {C : List zn} {R : List zA} {b : Int} {O : List Nat} {k i : Nat} {c : zn} (h : O[k]? = some i) (hc : C[i]? = some c) : zlO C R b O k = ⟨(i : Int), XZ (R ++ zU C (O.take k)) b c⟩ := by
 unfold zlO;rw [List.getD_eq_getElem?_getD, h];simp only [Option.getD_some, hc]
def yq (R : List zA) (C : List zn) (b : Int) (s : ASt) (x u : ByteArray) : zS := ⟨zaL C R b s.order s.order.length, XO s.rules x u b⟩
open Classical in
noncomputable def XF (R : List zA) (C : List zn) (x u : ByteArray) (b : Int) : Int × zS := match Zj R C b with
 | .error k => (k, ⟨[], []⟩)
 | .ok s => if yx s.rules x u b = 0 then (if xG R.length C (yq R C b s x u) then (0, zkE R.length C (yq R C b s x u)) else (2, ⟨[], []⟩)) else (yx s.rules x u b, ⟨[], []⟩)
theorem zif {R : List zA} {C : List zn} {b : Int} {s : ASt} (h : zaP R C b s) (hC : C.length <= 1000) (hF : ∀ c ∈ C, c.fr.length <= 1000) (x u : ByteArray) : YI (yq R C b s x u) ∧ (yq R C b s x u).items.length <= 1000 ∧ (yq R C b s x u).steps.length <= 1000000 ∧ ∀ y ∈ (yq R C b s x u).items, y.paths.length <= 1000 ∧ ∀ l ∈ y.paths, l.length <= 1000000 := by
 have ho : s.order.length <= C.length := Yi h.nd h.lt
 have key : ∀ y ∈ (yq R C b s x u).items, ∃ (i : Nat) (c : zn) (Q : List zA), i < C.length ∧ c ∈ C ∧ y = ⟨(i : Int), XZ Q b c⟩ := fun y hy => by
  obtain ⟨k, hk, rfl⟩ := List.mem_map.1 hy;rw [List.mem_range] at hk;obtain ⟨i, hi⟩ : ∃ i, s.order[k]? = some i := ⟨_, List.getElem?_eq_getElem hk⟩;have hic := h.lt i (List.mem_of_getElem? hi);obtain ⟨c, hc⟩ : ∃ c, C[i]? = some c := ⟨_, List.getElem?_eq_getElem hic⟩;exact ⟨i, c, _, hic, List.mem_of_getElem? hc, zeC hi hc⟩
 refine ⟨⟨fun y hy => ?_, ze7 _ _ _ _⟩, ?_, Nat.le_trans (xp _ _ _ _).1 (by omega), fun y hy => ?_⟩
 ·obtain ⟨i, c, Q, hi, _, rfl⟩ := key y hy
  refine ⟨by unfold zbE; simp only; omega, fun l hl => ?_⟩;obtain ⟨f, _, rfl⟩ := List.mem_map.1 hl;exact ze7 _ _ _ _
 ·unfold yq zaL
  simp only;rw [List.length_map, List.length_range];omega
 ·obtain ⟨i, c, Q, _, hc, rfl⟩ := key y hy
  refine ⟨by simp only; unfold XZ; rw [List.length_map]; exact hF c hc, fun l hl => ?_⟩;obtain ⟨f, _, rfl⟩ := List.mem_map.1 hl;exact Nat.le_trans (xp _ _ _ _).1 (by omega)
theorem zgC {R : List zA} {C : List zn} {b : Int} {s : ASt} (h : zaP R C b s) (k : Nat) : s.rules.take (R.length + (zU C (s.order.take k)).length) = R ++ zU C (s.order.take k) ∧ R.length + (zU C (s.order.take k)).length <= s.rules.length := by
 have e : s.rules = (R ++ zU C (s.order.take k)) ++ zU C (s.order.drop k) := by
  rw [h.rules, List.append_assoc];unfold zU;rw [<- List.flatMap_append, List.take_append_drop]
 rw [e, <- List.length_append, List.take_append_of_le_length (Nat.le_refl _), List.take_length];exact ⟨rfl, by rw [List.length_append (bs := zU C (s.order.drop k))]; omega⟩
def znu (w : World) (q : Int × zS) (e : Ending) (w' : World) : Prop := Chg (fun _ => False) w w' ∧
 ∃ iv sv, e = .returned (.tuple #[.agg #[iv, sv], .int .i64 q.1]) ∧ Ys w' iv (fun k => w.heap.size <= k ∧ k < w'.heap.size) q.2.items ∧ w'.ownsRow w.heap.size 153 2 sv q.2.steps.length (ZU q.2.steps)
theorem zbp (w : World) (G : Nat -> Prop) : Ys w (.slice none 0 0) G [] := ⟨none, 0, rfl, by simp, fun j x hj => by simp at hj⟩
theorem zeu (w : World) (base : Nat) (e : TypeId) (size : Nat) : w.ownsRow base e size (.slice none 0 0) 0 [] := ⟨by simp, .inl ⟨rfl, rfl⟩⟩
theorem zfd {w : World} {la : Option Addr} {n cap m : Nat} {G : Nat -> Prop} {R : List zA} (h : zM w (.slice la n cap) G R) (hm : m <= R.length) : zM w (.slice la m cap) G (R.take m) := by
 obtain ⟨la', cap', e, h2, h3⟩ := h;cases e;have hl : (R.take m).length = m := by rw [List.length_take]; omega
 refine ⟨la, cap, by rw [hl], by rw [hl]; omega, fun j r hj => ?_⟩;rw [List.getElem?_take] at hj;split at hj
 ·exact h3 j r hj
 ·cases hj
theorem zfY (a : Nat) : (Zw a).size = 2 := by simp [Zw, zY, ByteArray.size]
structure zn5 (W : World) (b0 bR base : Nat) (oa va : Option Addr) (oc vc : Nat) (s : ASt) (vp : Value) (wb : Nat) (L : zG) : Prop where
 out : W.heap[b0]? = some (.cells #[.slice none 0 0, .slice none 0 0] 83 (0, 0))
 res : W.heap[bR]? = some (.cells #[.slice oa s.order.length oc, .slice va s.rules.length vc] 165 (0, 0))
 ord : W.ownsRow base 3 1 (.slice oa s.order.length oc) s.order.length (yP s.order)
 rul : W.ownsRow base 66 2 (.slice va s.rules.length vc) s.rules.length (zw s.rules)
 stp : W.ownsRow wb 153 2 vp L.length (ZU L)
theorem zn5.chg {W W' : World} {b0 bR base : Nat} {oa va : Option Addr} {oc vc : Nat} {s : ASt} {vp : Value} {wb : Nat} {L : zG} (h : zn5 W b0 bR base oa va oc vc s vp wb L) {S : Nat -> Prop} (k : Chg S W W') (hS : ∀ i, S i -> W.heap.size <= i) : zn5 W' b0 bR base oa va oc vc s vp wb L := by
 have ne : ∀ {i : Nat}, i < W.heap.size -> ¬ S i := fun h e => by have := hS _ e; omega
 exact ⟨k.obj (ne (zq h.out)) h.out, k.obj (ne (zq h.res)) h.res, zm h.ord k (fun i hi => ne (h.ord.lt i hi).2), zm h.rul k (fun i hi => ne (h.rul.lt i hi).2), zm h.stp k (fun i hi => ne (h.stp.lt i hi).2)⟩
set_option maxHeartbeats 16000000 in
set_option maxRecDepth 100000 in
theorem zlJ (w : World) (ra : Option Addr) (R : List zA) (rc : Nat) (v : Value) (P : List (zn × Value)) (G : Nat -> Prop) (b : Int) (x u : ByteArray) (h : Yq w ra R rc v P G) (hx : x.size <= maxLen) (hu : u.size <= maxLen) (hF : ∀ c ∈ zj P, c.fr.length <= 1000) :
  Calls Tryz.prog 96 #[.slice ra R.length rc, v, .string x, .string u, .int .i64 b] w (znu w (XF R (zj P) x u b)) := by
 have HA := zb h;have HX := zb hx;have HU := zb hu
 have RSZ := zb (show R.length <= 400 -> ∀ r ∈ R, r.1.size <= 400 ∧ r.2.size <= maxLen from fun hl r hr => ⟨h.size hl r hr, by
  obtain ⟨_, _, _, _, q⟩ := h.rules;obtain ⟨j, hj⟩ := List.mem_iff_getElem?.1 hr;obtain ⟨_, _, _, _, _, _, q2⟩ := q j r hj;exact q2.2⟩)
 obtain ⟨la, lcap, rfl, _, _⟩ := h.certs;have k1 := zh (fun _ => False) w (.cells #[.slice none 0 0, .slice none 0 0] 83);have O1 := zb (zf w (.cells #[.slice none 0 0, .slice none 0 0] 83));have K1 := zb k1;have h1 := h.chg k1;clear k1 h hx hu;cases hacc : Zj R (zj P) b with
 | error k =>
  as_aux_lemma =>
  have ME : XF R (zj P) x u b = (k, ⟨[], []⟩) := by unfold XF; rw [hacc]
  rw [ME];have RUN := zb (zjM h1 hacc);clear hacc ME h1;go_enter Tryz.func96, Tryz.ntmps96;go_wp2_with fail;generalize w.alloc (.cells #[.slice none 0 0, .slice none 0 0] 83) = w1 at *;(with_reducible refine RUN.out.mono ?_);rintro e w2 ⟨hk0, rfl, k2⟩;have kb := zh (fun _ => False) w2 (.cells #[.slice none 0 0, .slice none 0 0] 165);have O1b := zb (kb.obj (fun e => e) (k2.obj (fun e => e) O1.out));have KB := zb (K1.out.trans (k2.trans kb));have g0 : (k != 0) = true := by rw [bne_iff_ne]; exact hk0
  have d0 := ze (o := 0) O1b.out rfl;have e0 := zk (o := 0) O1b.out;have d1 := ze (o := 1) O1b.out rfl;have e1 := zk (o := 1) O1b.out;clear kb RUN k2 hk0;go_wp2;obtain ⟨W, hW⟩ : ∃ W, W = ((w2.alloc (.cells #[.slice none 0 0, .slice none 0 0] 165)).setCell ⟨w.heap.size, 0, none⟩ (.slice none 0 0)).setCell ⟨w.heap.size, 1, none⟩ (.slice none 0 0) := ⟨_, rfl⟩;rw [<- hW];obtain ⟨ob, kW⟩ := zjF O1b.out _ _ W hW;clear hW;have z0 : W.cell? ⟨w.heap.size, 0, none⟩ = some (.slice none 0 0) := ze ob rfl;have z1 : W.cell? ⟨w.heap.size, 1, none⟩ = some (.slice none 0 0) := ze ob rfl;refine bodyPost_ret (v := .tuple #[.agg #[.slice none 0 0, .slice none 0 0], .int .i64 k]) (by simp [results, Tryz.results96, go_sem, z0, z1]) rfl ?_;exact ⟨KB.out.next kW (fun k hk e => by omega), _, _, rfl, zbp _ _, zeu _ _ _ _⟩
 | ok s =>
 have RUN := zb (zml h1 hacc);obtain ⟨hc1, hc2, hc3, hc4⟩ := zdl hacc;have INV := zb (zaC hacc).1.inv;have FEW := zb (zk3.few hacc (RSZ.out (by omega)));clear hc1 hc2 hc3 hc4 h1 RSZ;generalize hq : XF R (zj P) x u b = q;go_enter Tryz.func96, Tryz.ntmps96;go_wp2_with fail;have hs01 : w.heap.size < (w.alloc (.cells #[.slice none 0 0, .slice none 0 0] 83)).heap.size := by rw [World.size_alloc]; omega
 generalize w.alloc (.cells #[.slice none 0 0, .slice none 0 0] 83) = w1 at *;(with_reducible refine RUN.out.mono ?_);rintro e w2 ⟨oa, va, oc, vc, rfl, hoo, hor, k2⟩;have kb := zh (fun _ => False) w2 (.cells #[.slice oa s.order.length oc, .slice va s.rules.length vc] 165);have K3 := zb (K1.out.trans (k2.trans kb));have O13 := zb (kb.obj (fun e => e) (k2.obj (fun e => e) O1.out));have OR3 := zb (zf w2 (.cells #[.slice oa s.order.length oc, .slice va s.rules.length vc] 165));have OO3 := zb (zm hoo kb (fun _ _ e => e));have RR3 := zb (zm hor kb (fun _ _ e => e));have SZ := zb (show ∀ r ∈ s.rules, r.1.size <= maxLen ∧ r.2.size <= maxLen from fun r hr => ⟨by have := (FEW.out.2 r hr).1; unfold maxLen; omega, (FEW.out.2 r hr).2⟩);have ASK := zb (show zeX (w2.alloc (.cells #[.slice oa s.order.length oc, .slice va s.rules.length vc] 165)) (.slice va s.rules.length vc) s.rules x from ⟨ZY RR3.out SZ.out, .inl ⟨FEW.out.1, fun r hr => (FEW.out.2 r hr).1⟩, HX.out⟩);have q0 := ze (o := 0) OR3.out rfl;have q1 := ze (o := 1) OR3.out rfl;have HS13 := zb (show w1.heap.size <= (w2.alloc (.cells #[.slice oa s.order.length oc, .slice va s.rules.length vc] 165)).heap.size from Nat.le_trans k2.size kb.size);clear k2 kb hoo hor RUN O1;by_cases htp : yx s.rules x u b = 0
 rotate_left
 ·as_aux_lemma =>
  have ME : q = (yx s.rules x u b, ⟨[], []⟩) := by rw [<- hq]; unfold XF; rw [hacc]; exact if_neg htp
  have PA := zb (zm2 ASK.out u HU.out htp);clear hacc ASK hq;subst ME;generalize yx s.rules x u b = k at *;go_wp2_with fail;generalize w2.alloc (.cells #[.slice oa s.order.length oc, .slice va s.rules.length vc] 165) = w3 at *;(with_reducible refine PA.out.mono ?_);rintro e w4 ⟨rfl, k4⟩;have O1b := zb (k4.obj (fun e => e) O13.out);have KB := zb (K3.out.trans k4);have g0 : (k != 0) = true := by rw [bne_iff_ne]; exact htp
  have d0 := ze (o := 0) O1b.out rfl;have e0 := zk (o := 0) O1b.out;have d1 := ze (o := 1) O1b.out rfl;have e1 := zk (o := 1) O1b.out;clear PA k4 htp q0 q1;go_wp2;obtain ⟨W, hW⟩ : ∃ W, W = (w4.setCell ⟨w.heap.size, 0, none⟩ (.slice none 0 0)).setCell ⟨w.heap.size, 1, none⟩ (.slice none 0 0) := ⟨_, rfl⟩;rw [<- hW];obtain ⟨ob, kW⟩ := zjF O1b.out _ _ W hW;clear hW;have z0 : W.cell? ⟨w.heap.size, 0, none⟩ = some (.slice none 0 0) := ze ob rfl;have z1 : W.cell? ⟨w.heap.size, 1, none⟩ = some (.slice none 0 0) := ze ob rfl;refine bodyPost_ret (v := .tuple #[.agg #[.slice none 0 0, .slice none 0 0], .int .i64 k]) (by simp [results, Tryz.results96, go_sem, z0, z1]) rfl ?_;exact ⟨KB.out.next kW (fun k hk e => by omega), _, _, rfl, zbp _ _, zeu _ _ _ _⟩
 have ME1 := zb (fun (hc : xG R.length (zj P) (yq R (zj P) b s x u)) => show q = (0, zkE R.length (zj P) (yq R (zj P) b s x u)) from by rw [<- hq]; unfold XF; rw [hacc]; simp only; rw [if_pos htp, if_pos hc]);have ME2 := zb (fun (hc : ¬ xG R.length (zj P) (yq R (zj P) b s x u)) => show q = (2, ⟨[], []⟩) from by rw [<- hq]; unfold XF; rw [hacc]; simp only; rw [if_pos htp, if_neg hc]);have WF := zb (zif INV.out (by rw [zO]; exact HA.out.few) hF x u);have PA := zb (zhG ASK.out u HU.out htp);have EW := zb (show yq R (zj P) b s x u = ⟨zaL (zj P) R b s.order s.order.length, XO s.rules x u b⟩ from rfl);generalize yq R (zj P) b s x u = wh at *;have PS := zb (xp s.rules x u b).1;generalize XO s.rules x u b = L at *;obtain ⟨IT, hIT⟩ : ∃ IT : Nat -> List zF, IT = zaL (zj P) R b s.order := ⟨_, rfl⟩;have IT0 := zb (show IT 0 = [] from by rw [hIT]; rfl)
 have ITS := zb (fun (k i : Nat) c (hi : s.order[k]? = some i) (hc : (zj P)[i]? = some c) => show IT (k + 1) = IT k ++ [⟨(i : Int), XZ (R ++ zU (zj P) (s.order.take k)) b c⟩] from by
  rw [hIT, zg0, zeC hi hc])
 obtain ⟨AH, hAH⟩ : ∃ AH : Nat -> Nat, AH = fun k => R.length + (zU (zj P) (s.order.take k)).length := ⟨_, rfl⟩;have AH0 := zb (show AH 0 = R.length from by rw [hAH]; simp [zU])
 have AHS := zb (fun (k i : Nat) c (hi : s.order[k]? = some i) (hc : (zj P)[i]? = some c) => show AH (k + 1) = AH k + c.fr.length from by
  rw [hAH];simp only;rw [List.take_add_one, hi, Option.toList_some, XU hc, List.length_append];unfold ZE;rw [List.length_map];omega)
 have AHT := zb (fun k => show s.rules.take (AH k) = R ++ zU (zj P) (s.order.take k) ∧ AH k <= s.rules.length from by rw [hAH]; exact zgC INV.out k);have JUST := zb (fun (k i : Nat) c (hi : s.order[k]? = some i) (hc : (zj P)[i]? = some c) => zfW (INV.out.just k i c hi hc));have ITL := zb (fun k => show (IT k).length = k from by rw [hIT]; unfold zaL; simp);rw [<- hIT] at EW;clear hIT hAH hacc ASK htp hq;have PCL := zO P;have OLT := zb (fun i (hi : i ∈ s.order) => show i < P.length from by have := INV.out.lt i hi; omega);have CTO := zb (fun (i : Nat) q (hq : P[i]? = some q) => Zq hq);have OLN := zb (show s.order.length <= P.length from by have := Yi INV.out.nd INV.out.lt; omega);have PFW := HA.out.few;clear PCL INV;have hs23 : (w2.alloc (.cells #[.slice oa s.order.length oc, .slice va s.rules.length vc] 165)).heap.size = w2.heap.size + 1 := World.size_alloc _ _;have HS3 := zb hs23;clear hs23;go_wp2_with fail;clear q0 q1;generalize w2.alloc (.cells #[.slice oa s.order.length oc, .slice va s.rules.length vc] 165) = w3 at *;generalize w2.heap.size = bR at *;(with_reducible refine PA.out.mono ?_);rintro e w4 ⟨vp, rfl, hst, k4⟩;obtain ⟨sa, sc, rfl⟩ := zl hst;have ka := zh (fun _ => False) w4 (.cells #[.slice none 0 0, .slice sa L.length sc] 83)
 have KP0 := zb (show zaO (w4.alloc (.cells #[.slice none 0 0, .slice sa L.length sc] 83)) (w4.alloc (.cells #[.slice none 0 0, .slice sa L.length sc] 83)) w4.heap.size (.slice none 0 0) (.slice sa L.length sc) [] (fun _ => False) from
  ⟨zf _ _, ⟨rfl, .inl ⟨rfl, rfl⟩⟩, fun x hx => (by cases hx), fun _ e => e.elim⟩)
 have M4 := zb (show zn5 w4 w.heap.size bR w1.heap.size oa va oc vc s (.slice sa L.length sc) w3.heap.size L from
  ⟨k4.obj (fun e => e) O13.out, k4.obj (fun e => e) OR3.out, zm OO3.out k4 (fun _ _ e => e), zm RR3.out k4 (fun _ _ e => e), hst⟩)
 have KM := zb (K3.out.trans (k4.trans ka));have KA := zb ka
 have MM := zb (fun W (kW : Chg (fun j => j = w4.heap.size) (w4.alloc (.cells #[.slice none 0 0, .slice sa L.length sc] 83)) W) =>
  show zn5 W w.heap.size bR w1.heap.size oa va oc vc s (.slice sa L.length sc) w3.heap.size L from M4.out.chg ((KA.out.mono (fun _ _ e => e.elim)).trans kW) (fun i e => by omega))
 have HZ := zb (show w.heap.size < w4.heap.size ∧ w1.heap.size <= w4.heap.size ∧ w3.heap.size <= w4.heap.size ∧ w4.heap.size < (w4.alloc (.cells #[.slice none 0 0, .slice sa L.length sc] 83)).heap.size from
  ⟨zq M4.out.out, Nat.le_trans HS13.out k4.size, k4.size, by rw [World.size_alloc]; omega⟩)
 have q0 := ze (o := 0) (MM.out _ (Chg.refl _ _)).res rfl;clear hst k4 ka M4 KA O13 OR3 OO3 RR3 PA K3 HS3 HS13;go_wp2_with fail;clear q0;generalize w4.alloc (.cells #[.slice none 0 0, .slice sa L.length sc] 83) = wM at *;generalize w4.heap.size = br at *;go_loopw [16, 56] (fun av iv wr => ∃ (k : Nat) (ivv : Value) (xs : List (zF × Value)) (Gx : Nat -> Prop), k <= s.order.length ∧ av = .int .i64 (AH k : Int) ∧ iv = .int .i64 k ∧ Hid (zaO wM wr br ivv (.slice sa L.length sc) xs Gx ∧ Chg (fun j => j = br) wM wr ∧ xs.map Prod.fst = IT k)) (fun _ iv _ => s.order.length - (intOf iv).toNat)
 case atStart => exact ⟨0, _, [], _, by omega, by rw [AH0.out], rfl, zb ⟨KP0.out, Chg.refl _ _, by rw [IT0.out]; rfl⟩⟩
 case round =>
  obtain ⟨k, ivv, xs, Gx, hk, rfl, rfl, HI⟩ := hrel;have KP := zb HI.out.1;have KC := zb HI.out.2.1;have XM := zb HI.out.2.2;clear HI;by_cases hlt : k < s.order.length
  ·as_aux_lemma =>
   obtain ⟨i, hi⟩ : ∃ i, s.order[k]? = some i := ⟨_, List.getElem?_eq_getElem hlt⟩;have hil := OLT.out i (List.mem_of_getElem? hi);obtain ⟨pq, hpq⟩ : ∃ pq, P[i]? = some pq := ⟨_, List.getElem?_eq_getElem hil⟩;have hci := CTO.out i pq hpq;have JU := zb (JUST.out k i _ hi hci);have ITN := zb (ITS.out k i _ hi hci);have AHN := AHS.out k i _ hi hci;obtain ⟨aht1, aht2⟩ := AHT.out k;have AHL := (AHT.out (k + 1)).2;have FL := FEW.out.1;have HFI := hF _ (List.mem_of_getElem? hci);rw [<- aht1] at JU ITN;have M0 := zb (MM.out wr KC.out);obtain ⟨_, _, e1, _, hoc⟩ := zew M0.out.ord;cases e1;obtain ⟨go, rfl, _, oc0⟩ := hoc k i hi;have KW := zb (KM.out.next KC.out (fun j hj e => by have := HZ.out.1; omega));obtain ⟨_, _, e1, _, hcv⟩ := HA.out.certs;cases e1;obtain ⟨cg, co, ca, ccp, rfl, hcg, ecv, cw0, cw1, cw2, cw3, cw4, cw5, cw6, hca⟩ := hcv i pq hpq;have CA := zb hca;obtain ⟨⟨ck, sg, sp, fr, cf, ct, cn⟩, cv⟩ := pq;simp only at cw1 cw3 CA JU ITN AHN HFI;have hk8 := Nat.lt_of_lt_of_le hlt OLN.out;have LOW := zb HA.out.low;have ky := zh (fun _ => False) wr (.cells #[.int .i64 (i : Int), .slice none 0 0] 98)
   have PI0 := zb (show XB wr (wr.alloc (.cells #[.int .i64 (i : Int), .slice none 0 0] 98)) wr.heap.size (i : Int) (.slice none 0 0) [] (fun _ => False) from
    ⟨zf _ _, ⟨rfl, .inl ⟨rfl, rfl⟩⟩, fun z hz => (by cases hz), fun _ e => e.elim, ky, Nat.le_refl _⟩)
   have c1 := zi (KW.out.trans ky) (fun e => e) cw1;have ks := zh (fun _ => False) (wr.alloc (.cells #[.int .i64 (i : Int), .slice none 0 0] 98)) (.cells #[.int .u16 (sg : Int)] 62);have WO0 := (zba ((wr.alloc (.cells #[.int .i64 (i : Int), .slice none 0 0] 98)).alloc (.cells #[.int .u16 (sg : Int)] 62)) _ 0 1 sg CA.out.sg (ze (zf (wr.alloc (.cells #[.int .i64 (i : Int), .slice none 0 0] 98)) (.cells #[.int .u16 (sg : Int)] 62)) rfl));rw [World.size_alloc] at WO0;have WO := zb WO0;have PIS := zb (PI0.out.chg ks);have b0 := ze (o := 0) M0.out.res rfl;have hoc2 : s.order.length <= oc := zgR M0.out.ord;clear hcv hca ecv cw0 cw2 cw4 cw5 cw6 ky ks hoc hci hpq hi PI0 aht1 WO0 JUST ITS AHS AHT KP0;go_upto_region 12 with fail;clear oc0 b0;go_wp2_with fail;clear c1;generalize (wr.alloc (.cells #[.int .i64 (i : Int), .slice none 0 0] 98)).alloc (.cells #[.int .u16 (sg : Int)] 62) = wx at *;(with_reducible refine WO.out.mono ?_);rintro e wy ⟨rfl, k7⟩;have PIY := zb (PIS.out.chg k7);have c3 := zi (KW.out.trans PIY.out.ch) (fun e => e) cw3;clear WO k7 PIS;go_wp2_with fail;clear c3;obtain ⟨wo, hwo⟩ : ∃ wo, wo = wr := ⟨_, rfl⟩;subst hwo;obtain ⟨PQ, hPQ⟩ : ∃ PQ : List zG, PQ = XZ (s.rules.take (AH k)) b ⟨ck, sg, sp, fr, cf, ct, cn⟩ := ⟨_, rfl⟩;have PQL := zb (show PQ.length = fr.length from by rw [hPQ]; unfold XZ; rw [List.length_map])
   have PQT := zb (fun (j : Nat) f (hf : fr[j]? = some f) => show PQ.take (j + 1) = PQ.take j ++ [XO (s.rules.take (AH k)) f (Zw sg) b] from by
    rw [hPQ];unfold XZ;rw [List.take_add_one, List.getElem?_map, hf]; rfl)
   have JUF := zb (fun (j : Nat) f (hf : fr[j]? = some f) => JU.out f (List.mem_of_getElem? hf));have ITP := zb (show IT (k + 1) = IT k ++ [⟨(i : Int), PQ⟩] from by rw [hPQ]; exact ITN.out);clear hPQ JU ITN;obtain ⟨_, _, e1, hfl0, hfc⟩ := CA.out.set.at_;cases e1;have HFC := zb hfc;clear hfc;go_loopw [75] (fun jv wr => ∃ (j : Nat) (pv : Value) (zs : List (zG × Value)) (Gz : Nat -> Prop), j <= fr.length ∧ jv = .int .i64 j ∧ Hid (XB wo wr wo.heap.size (i : Int) pv zs Gz ∧ zs.map Prod.fst = PQ.take j)) (fun jv _ => fr.length - (intOf jv).toNat)
   case atStart => exact ⟨0, _, [], _, by omega, rfl, zb ⟨PIY.out, rfl⟩⟩
   case round =>
    obtain ⟨j, pv, zs, Gz, hj, rfl, HJ⟩ := hrel;obtain ⟨za, zc, ezv⟩ := zl HJ.out.1.row;subst ezv;have PI := zb HJ.out.1;have ZM := zb HJ.out.2
    have hzl : zs.length <= 1000 := by
     have := congrArg List.length ZM.out;rw [List.length_map, List.length_take] at this;omega
    have CK := zb (KC.out.trans (PI.out.ch.mono (fun _ _ e => e.elim)));clear HJ PIY;by_cases hjl : j < fr.length
    ·as_aux_lemma =>
     obtain ⟨f, hf⟩ : ∃ f, fr[j]? = some f := ⟨_, List.getElem?_eq_getElem hjl⟩;obtain ⟨fb, fo, rfl, _, f0', hfs⟩ := HFC.out j f hf;have KWJ := zb (KW.out.trans PI.out.ch);have f0 := zi KWJ.out (fun e => e) f0';have PQN := zb (PQT.out j f hf);have M1 := zb (MM.out wr CK.out);have b1 := ze (o := 1) M1.out.res rfl;have hvc : s.rules.length <= vc := zgR M1.out.rul;have SZA := zb (show ∀ r ∈ s.rules, r.1.size <= maxLen ∧ r.2.size <= maxLen from SZ.out);have ASKJ := zb (show zeX wr (.slice va (AH k) vc) (s.rules.take (AH k)) f from ⟨zfd (ZY M1.out.rul SZA.out) aht2, .inl ⟨by rw [List.length_take]; omega, fun r hr => (FEW.out.2 r (List.mem_of_mem_take hr)).1⟩, hfs⟩);have PA := zb (zhG ASKJ.out (Zw sg) (by rw [zfY]; unfold maxLen; omega) (JUF.out j f hf));have PN := zb (xp (s.rules.take (AH k)) f (Zw sg) b).1;generalize XO (s.rules.take (AH k)) f (Zw sg) b = l at *;have x1 : AH k <= vc := by omega
     have x2 : (AH k : Int) <= (vc : Int) := by omega
     have hzz : wo.heap.size <= wr.heap.size := PI.out.ch.size;clear f0' hf hfs ASKJ SZA PQT JUF HFC;go_wp2_with fail;clear f0 b1;(with_reducible refine PA.out.mono ?_);rintro e wa ⟨vl, rfl, hoa, k8⟩;obtain ⟨aa, ac, rfl⟩ := zl hoa;have PA2 := zb (PI.out.chg k8);have HOA := zb (yA hoa hzz);have y1 := ze (o := 1) PA2.out.box rfl;have kb := zh (fun _ => False) wa (.cells #[.slice aa l.length ac] 81);have PB := zb (PA2.out.chg kb);have HOB := zb (zm HOA.out kb (fun _ _ e => e));have hza : wo.heap.size <= wa.heap.size := PA2.out.ch.size;clear PA k8 hoa kb PI HOA;go_wp2_with (at_builtin; refine ZI rfl (.tmp 95) (.tmp 97) 96 rfl 81 1 24 Tryz.underlying96 Tryz.elemSteps wo.heap.size (.slice za zs.length zc) zs.length (zs.map Prod.snd) rfl PB.out.row wa.heap.size [.slice aa l.length ac] 81 (0, 0) rfl (zf _ _) rfl ?p1 ?p2 ?p3 ?p4 ?pnx)
     case p1 => intro u hu; simp at hu; subst hu; rfl
     case p2 => omega
     case p3 => unfold maxLen; omega
     case p4 => first | omega | (rw [World.size_alloc]; omega)
     intro v9 w9 o9 g9;obtain ⟨a9, c9, rfl⟩ := zl o9;have PP := PB.out.push (l := l) (v := .slice aa l.length ac) HOB.out g9 o9;have bx9 := PP.2;have PNX := zb PP.1;have y4 := ze (o := 1) bx9 rfl;have f4 := zk (o := 1) bx9;have ZN := zb (show (zs ++ [(l, Value.slice aa l.length ac)]).map Prod.fst = PQ.take (j + 1) from by rw [PQN.out, List.map_append, ZM.out]; rfl);clear PP bx9 o9 g9 PB HOB y1;go_wp2;go_roundw
     case rel => exact ⟨j + 1, _, _, _, by omega, by go_num, zb ⟨PNX.out, ZN.out⟩⟩
     case measure => simp [intOf]; omega
    ·as_aux_lemma =>
     obtain rfl : j = fr.length := by omega
     obtain ⟨pd1, pd2⟩ := PI.out.done;rw [ZM.out, <- PQL.out, List.take_length] at pd1;have KPW := zb (KP.out.chg PI.out.ch);obtain ⟨ia, ic, eiv⟩ := zl KPW.out.row;subst eiv
     have hxl : xs.length <= 1000 := by
      have := congrArg List.length XM.out;rw [List.length_map, ITL.out] at this;omega
     have ka := zh (fun _ => False) wr (.cells #[.int .i64 (i : Int), .slice za zs.length zc] 98)
     have HPP := zb (And.intro (pd1.chg ka (fun _ _ e => e)) (fun k hk => show wM.heap.size <= k ∧ ∃ cs t, (wr.alloc (.cells #[.int .i64 (i : Int), .slice za zs.length zc] 98)).heap[k]? = some (.cells cs t (0, 0)) ∧ (t = 81 ∨ t = 153) from by
      obtain ⟨h1, cs, t, q, ht⟩ := pd2 k hk;exact ⟨Nat.le_trans KC.out.size h1, cs, t, ka.obj (fun e => e) q, ht⟩))
     have KPA := zb (KPW.out.chg ka);have KCA := zb (CK.out.trans (ka.mono (fun _ _ e => e.elim)));have b0 := ze (o := 0) KPW.out.box rfl;have y0 := ze (o := 0) PI.out.box rfl;have y1 := ze (o := 1) PI.out.box rfl;have hwm : wM.heap.size <= wr.heap.size := CK.out.size;clear pd1 pd2 ka KPW JUF PQT HFC;go_wp2_with (at_builtin; refine ZI rfl (.tmp 102) (.tmp 104) 80 rfl 98 2 32 Tryz.underlying80 Tryz.elemItem wM.heap.size (.slice ia xs.length ic) xs.length (Xc xs) rfl KPA.out.row _ [.int .i64 (i : Int), .slice za zs.length zc] 98 (0, 0) rfl (zf _ _) rfl ?u1 ?u2 ?u3 ?u4 ?unx)
     case u1 => first | exact ⟨rfl, rfl⟩ | (intro u hu; simp at hu; rcases hu with rfl | rfl <;> rfl)
     case u2 => omega
     case u3 => unfold maxLen; omega
     case u4 => first | omega | (rw [World.size_alloc]; omega)
     intro v5 w5 o5 g5;obtain ⟨a5, c5, rfl⟩ := zl o5;have KPP := KPA.out.push (y := ⟨(i : Int), PQ⟩) HPP.out.1 HPP.out.2 g5 o5;have KPN := zb KPP.1;have bx5 := KPP.2.1;have b5 := ze (o := 0) bx5 rfl;have f5 := zk (o := 0) bx5
     have KCN := zb (KCA.out.next KPP.2.2 (fun i hi e => by
      rcases e with e | e
      ·exact e
      ·have := (KPA.out.row.lt i e).1; omega))
     have c3 := zi (KM.out.next KCN.out (fun j hj e => by have := HZ.out.1; omega)) (fun e => e) cw3;have XN := zb (show (xs ++ [((⟨(i : Int), PQ⟩ : zF), Value.slice za zs.length zc)]).map Prod.fst = IT (k + 1) from by rw [ITP.out, List.map_append, XM.out]; rfl);have x3 : IntKind.i64.wrap ((AH k : Int) + (fr.length : Int)) = (AH (k + 1) : Int) := by rw [IntKind.wrap_i64] <;> omega
     have hil2 : (i : Int) < (P.length : Int) := by omega
     clear KPP bx5 o5 g5 HPP KPA KCA b0 y0 y1 AHN;go_wp2;go_roundw
     case rel => exact ⟨k + 1, _, _, _, by omega, rfl, by go_num, zb ⟨KPN.out, KCN.out, XN.out⟩⟩
     case measure => simp [intOf]; omega
  ·as_aux_lemma =>
   obtain rfl : k = s.order.length := by omega
   have M0 := zb (MM.out wr KC.out);have KW := zb (KM.out.next KC.out (fun j hj e => by have := HZ.out.1; omega));obtain ⟨ia, ic, eiv⟩ := zl KP.out.row;subst eiv;have b0 := ze (o := 0) KP.out.box rfl;have b1 := ze (o := 1) KP.out.box rfl;have WI : wh.items.length = xs.length := by rw [EW.out, <- XM.out, List.length_map]
   have HP := zb (show yg wr (.slice ia xs.length ic) (.slice sa L.length sc) (· < wr.heap.size) wh from by
    have it := zfC KP.out.row KP.out.ent;rw [XM.out] at it;rw [EW.out];refine ⟨it.up (fun k hk => ?_), (zbM M0.out.stp).up (fun k hk => (M0.out.stp.lt k hk).2)⟩;rcases hk with hk | hk
    ·obtain ⟨_, cs, t, q, _⟩ := KP.out.typ k hk
     exact zq q
    ·exact (KP.out.row.lt k hk).2)
   have CU := znk wr (R.length : Int) (.slice la P.length lcap) (.slice ia xs.length ic) (.slice sa L.length sc) P wh G (· < wr.heap.size) (HA.out.certs.chg KW.out (fun _ _ e => e)) HP.out (fun _ e => e) WF.out.1 WF.out.2.1 hF WF.out.2.2.1 WF.out.2.2.2;unfold zmF at CU;have CU := zb CU;have O0 := zb M0.out.out;go_wp2_with fail;clear b0 b1;(with_reducible refine CU.out.mono ?_);rintro e wc ⟨kc, hres⟩;have OC := zb (kc.obj (fun e => e) O0.out);have hbl : w.heap.size < wr.heap.size := zq O0.out;have d0 := ze (o := 0) OC.out rfl;have e0 := zk (o := 0) OC.out;have d1 := ze (o := 1) OC.out rfl;have e1 := zk (o := 1) OC.out;have KWC := zb (KW.out.trans kc);have hsc := kc.size;rcases hres with ⟨hco, iv, sv, rfl, hit, hrow⟩ | ⟨hno, rfl⟩
   ·have E := ME1.out hco
    subst E;obtain ⟨i1, i2, rfl⟩ := hit.shape;obtain ⟨j1, j2, rfl⟩ := zl hrow;generalize (zkE R.length (zj P) wh).items.length = n1 at *;generalize hn2 : (zkE R.length (zj P) wh).steps.length = n2 at *;have HN := zb hn2;clear hn2;have HIT := zb hit;have HROW := zb hrow;clear hit hrow hco CU O0 kc ME1 ME2;go_wp2;obtain ⟨W, hW⟩ : ∃ W, W = (wc.setCell ⟨w.heap.size, 0, none⟩ (.slice i1 n1 i2)).setCell ⟨w.heap.size, 1, none⟩ (.slice j1 n2 j2) := ⟨_, rfl⟩;rw [<- hW];obtain ⟨ob, kW⟩ := zjF OC.out _ _ W hW;clear hW;have z0 : W.cell? ⟨w.heap.size, 0, none⟩ = some (.slice i1 n1 i2) := ze ob rfl;have z1 : W.cell? ⟨w.heap.size, 1, none⟩ = some (.slice j1 n2 j2) := ze ob rfl;refine bodyPost_ret (v := .tuple #[.agg #[.slice i1 n1 i2, .slice j1 n2 j2], .int .i64 0]) (by simp [results, Tryz.results96, go_sem, z0, z1]) rfl ?_;have hsW := kW.size;have hr2 := zm HROW.out kW (fun k hk e => by have := (HROW.out.lt k hk).1; omega);exact ⟨KWC.out.next kW (fun k hk e => by omega), _, _, rfl, (HIT.out.chg kW (fun k hk e => by omega)).up (fun k hk => ⟨by omega, by omega⟩), by simp only; rw [HN.out]; exact yA hr2 (Nat.le_of_lt hbl)⟩
   ·have E := ME2.out hno
    subst E;clear hno CU O0 kc ME1 ME2;go_wp2;obtain ⟨W, hW⟩ : ∃ W, W = (wc.setCell ⟨w.heap.size, 0, none⟩ (.slice none 0 0)).setCell ⟨w.heap.size, 1, none⟩ (.slice none 0 0) := ⟨_, rfl⟩;rw [<- hW];obtain ⟨ob, kW⟩ := zjF OC.out _ _ W hW;clear hW;have z0 : W.cell? ⟨w.heap.size, 0, none⟩ = some (.slice none 0 0) := ze ob rfl;have z1 : W.cell? ⟨w.heap.size, 1, none⟩ = some (.slice none 0 0) := ze ob rfl;refine bodyPost_ret (v := .tuple #[.agg #[.slice none 0 0, .slice none 0 0], .int .i64 2]) (by simp [results, Tryz.results96, go_sem, z0, z1]) rfl ?_;exact ⟨KWC.out.next kW (fun k hk e => by omega), _, _, rfl, zbp _ _, zeu _ _ _ _⟩
end Go.Proofs.YthdfplafihmejaaGreat
