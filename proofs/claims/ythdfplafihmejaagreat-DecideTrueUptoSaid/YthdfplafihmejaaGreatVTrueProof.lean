/-
  Decide: does something reach more than the bound? By the reference's Run and All.
  DecideTrue, walked.
  The answer is the truth.
  (Where what is read is of bulk at most 1048576.)
-/
import Derived.Test.YthdfplafihmejaaGreatVPlain2
import Derived.Test.YthdfplafihmejaaGreatVWhyProof
import Derived.Test.YthdfplafihmejaaGreatDRun
import Derived.Test.YthdfplafihmejaaGreatRTellR1Z
import Derived.Deep.CondSized
namespace Go.Proofs.YthdfplafihmejaaGreat
open Go.RowKit Go.Maps

theorem overB_snoc {S : List BRul} {b : Int} {l : List ByteArray} {k : Nat} {y : ByteArray} (h : l[k]? = some y) : overB S b (l.take (k + 1)) = (overB S b (l.take k) || decide (rowErr S y b ≠ 0)) := by
 unfold overB
 rw [List.take_add_one, h]; simp
theorem opOver_snoc {S : List BRul} {op b : Int} {L : List BEnt} {k : Nat} {x : BEnt} (h : L[k]? = some x) : opOver S (L.take (k + 1)) op b = (opOver S (L.take k) op b || (decide (x.1 = op) && overB S b x.2)) := by
 unfold opOver
 rw [List.take_add_one, h]; simp
theorem opOver_yes {S : List BRul} {op b : Int} {L : List BEnt} {x : BEnt} {y : ByteArray} (hx : x ∈ L) (hy : y ∈ x.2) (h1 : x.1 = op) (h2 : rowErr S y b ≠ 0) : opOver S L op b = true :=
 List.any_eq_true.2 ⟨x, hx, by rw [decide_eq_true h1, Bool.true_and]; exact List.any_eq_true.2 ⟨y, hy, decide_eq_true h2⟩⟩
def overV (R : List BRul) (C : List BCert) (L : List BEnt) (op b : Int) : Bool := match acceptE R C b with
 | .ok s => opOver s.rules L op b
 | .error _ => true
/-- What the reference's Run and All need. -/
structure RunIn (R : List BRul) (P : List (BCert × Value)) (L : List BEnt) (b : Int) : Prop where
 fit : Fit47 R
 cert : ∀ c ∈ certsOf P, c.sp.size ≤ 140737488355328 ∧ Sizes c.fr
 word : ∀ x ∈ L, ∀ y ∈ x.2, y.size ≤ 140737488355328
 over : ∀ k, acceptE R (certsOf P) b = .error k → k = 12
 row : ∀ s, acceptE R (certsOf P) b = .ok s → Few s.rules ∧ Fit47 s.rules ∧ ∀ x ∈ L, ∀ y ∈ x.2, rowErr s.rules y b = 0 ∨ rowErr s.rules y b = 12
def AllAt (W : World) (rv : Value) (S : List BRul) (L : List BEnt) (b : Int) : Prop :=
 ∀ W', Chg (fun _ => False) W W' → ∀ x ∈ L, ∀ y ∈ x.2, Calls Tryz.prog 22 #[rv, .string y, .int .i64 b] W' (TellAll W' (rowErr S y b) (tellL S y b))
theorem all_at {W : World} {base : Nat} {rv : Value} {S : List BRul} {L : List BEnt} {b : Int} (ho : W.ownsRow base 66 2 rv S.length (ruleCells S)) (hf : Few S) (h47 : Fit47 S) (hw : ∀ x ∈ L, ∀ y ∈ x.2, y.size ≤ 140737488355328) : AllAt W rv S L b := fun W' k x hx y hy =>
 rall_tells ⟨(rulesAt_blk (own_chg ho k (fun _ _ e => e)) (fun r hr => by have := h47 r hr; unfold maxLen; omega)).imp (fun j hj => (own_chg ho k (fun _ _ e => e)).lt j hj |>.2), hf, by have := hw x hx y hy; unfold maxLen; omega⟩ h47 (hw x hx y hy)
theorem AllAt.chg {W W' : World} {rv : Value} {S : List BRul} {L : List BEnt} {b : Int} (h : AllAt W rv S L b) (k : Chg (fun _ => False) W W') : AllAt W' rv S L b := fun W2 k2 => h W2 (k.trans k2)
theorem ask_up {w W : World} {ra : Option Addr} {R : List BRul} {rc : Nat} {v lv cv : Value} {P : List (BCert × Value)} {L : List BEnt} {c : List ByteArray} (h : AskAt w ra R rc v lv cv P L c (· < w.heap.size)) (k : Chg (fun _ => False) w W) : AskAt W ra R rc v lv cv P L c (· < W.heap.size) :=
 ⟨runArgs_up h.run k, (h.ents.chg k (fun _ _ e => e)).up (fun _ hj => Nat.lt_of_lt_of_le hj k.size), h.few, (h.set.chg k (fun _ _ e => e)).up (fun _ hj => Nat.lt_of_lt_of_le hj k.size)⟩
section
variable (w : World) (ra : Option Addr) (R : List BRul) (rc : Nat) (v lv cv : Value) (P : List (BCert × Value)) (L : List BEnt) (op : Int) (c : List ByteArray) (b : Int)
/-- The reference's Run: a list of rules of which All tells. -/
theorem rrun_all (h : AskAt w ra R rc v lv cv P L c (· < w.heap.size)) (q : RunIn R P L b) : Calls Tryz.prog 21 #[.slice ra R.length rc, v, .int .i64 b] w fun e w' => Chg (fun _ => False) w w' ∧
  ((∃ k, acceptE R (certsOf P) b = .error k ∧ e = .returned (.tuple #[.agg #[.slice none 0 0, .slice none 0 0], .int .i64 12])) ∨
   ∃ s oa va oc vc, acceptE R (certsOf P) b = .ok s ∧ e = .returned (.tuple #[.agg #[.slice oa s.order.length oc, .slice va s.rules.length vc], .int .i64 0]) ∧ AllAt w' (.slice va s.rules.length vc) s.rules L b) :=
 (rrun12_any w ra R rc v P b _ h.run.rules h.run.nil h.run.many h.run.size h.run.certs h.run.few q.fit q.cert).mono fun e w' ⟨hc, hr⟩ => by
  rcases hr with ⟨k, _, hk, he⟩ | ⟨s, oa, va, oc, vc, hs, he, _, h2⟩
  · refine ⟨hc, .inl ⟨k, hk, ?_⟩⟩
    rw [he, q.over k hk]
  · obtain ⟨q1, q2, _⟩ := q.row s hs
    exact ⟨hc, .inr ⟨s, oa, va, oc, vc, hs, he, all_at h2 q1 q2 q.word⟩⟩
set_option maxHeartbeats 8000000 in
set_option maxRecDepth 100000 in
theorem overs_any (h : AskAt w ra R rc v lv cv P L c (· < w.heap.size)) (q : RunIn R P L b) : Calls Tryz.prog 20 #[.agg #[.slice ra R.length rc, v, lv, .int .i64 op, cv, .int .i64 b]] w fun e w' => e = .returned (.bool (overV R (certsOf P) L op b)) ∧ Chg (fun _ => False) w w' := by
 have kb := chg_alloc (fun _ => False) w (.cells #[.slice ra R.length rc, v, lv, .int .i64 op, cv, .int .i64 b] 28)
 have OB := Lib.hid (obj_alloc_new w (.cells #[.slice ra R.length rc, v, lv, .int .i64 op, cv, .int .i64 b] 28))
 have RUN := Lib.hid (rrun_all _ ra R rc v lv cv P L c b (ask_up h kb) q)
 have EN := Lib.hid h.ents
 have KB := Lib.hid kb
 have ROW := Lib.hid q.row
 have hl := h.few
 obtain ⟨la, lcap, rfl, _, _⟩ := h.run.certs
 obtain ⟨ea, ec, rfl, _, _⟩ := h.ents.shape
 obtain ⟨ca, cc, rfl, _, _⟩ := h.set
 have RES := Lib.hid (show overV R (certsOf P) L op b = (match acceptE R (certsOf P) b with | .ok s => opOver s.rules L op b | .error _ => true) from rfl)
 generalize overV R (certsOf P) L op b = res at *
 clear h q kb
 go_enter Tryz.func20, Tryz.ntmps20
 go_wp2_with fail
 generalize w.alloc (.cells #[.slice ra R.length rc, .slice la P.length lcap, .slice ea L.length ec, .int .i64 op, .slice ca c.length cc, .int .i64 b] 28) = w1 at *
 generalize w.heap.size = bx at OB
 (with_reducible refine (RUN.out).mono ?_)
 rintro e w2 ⟨k2, ⟨kk, hacc, rfl⟩ | ⟨s, oa, va, oc, vc, hacc, rfl, hall⟩⟩
 · as_aux_lemma =>
   have K2 := Lib.hid (KB.out.trans k2)
   have RV : res = true := by rw [RES.out, hacc]
   subst RV
   clear RUN k2 hacc RES
   go_wp2
   go_ret
   exact ⟨rfl, K2.out.trans (chg_alloc _ _ _)⟩
 have RV : res = opOver s.rules L op b := by rw [RES.out, hacc]
 have OV := Lib.hid RV
 have k3 := chg_alloc (fun _ => False) w2 (.cells #[.slice oa s.order.length oc, .slice va s.rules.length vc] 52)
 have ALL := Lib.hid (hall.chg k3)
 have RB := Lib.hid (obj_alloc_new w2 (.cells #[.slice oa s.order.length oc, .slice va s.rules.length vc] 52))
 have K3 := Lib.hid ((KB.out.trans k2).trans k3)
 have OB3 := Lib.hid ((k2.trans k3).obj (fun e => e) OB.out)
 have ROWS := Lib.hid (ROW.out s hacc).2.2
 obtain ⟨x0, x1, x2, x3, x4, x5⟩ := cells6 OB3.out
 clear RUN k2 hacc RES hall k3 ROW RV OB KB
 go_wp2_with fail
 clear x0 x1 x2 x3 x4 x5
 generalize w2.alloc (.cells #[.slice oa s.order.length oc, .slice va s.rules.length vc] 52) = w3 at *
 generalize w2.heap.size = br at *
 generalize s.rules = S at *
 go_loopw [26] (fun iv wr => ∃ k : Nat, k ≤ L.length ∧ iv = .int .i64 k ∧ Hid (opOver S (L.take k) op b = false ∧ Chg (fun _ => False) w3 wr)) (fun iv _ => L.length - (intOf iv).toNat)
 case atStart => exact ⟨0, by omega, rfl, Lib.hid ⟨rfl, Chg.refl _ _⟩⟩
 case round =>
 obtain ⟨k, hk, rfl, HI⟩ := hrel
 by_cases hlt : k < L.length
 rotate_left
 · obtain rfl : k = L.length := by omega
   have RF : res = false := by have := HI.out.1; rw [List.take_length] at this; rw [OV.out, this]
   have KF := Lib.hid (K3.out.trans HI.out.2)
   subst RF
   clear HI OV
   go_wp2
   go_ret
   exact ⟨rfl, KF.out⟩
 obtain ⟨⟨eo, es⟩, hx⟩ : ∃ x, L[k]? = some x := ⟨_, List.getElem?_eq_getElem hlt⟩
 obtain ⟨g, o, sa, sc, rfl, _, q0, q1, hset⟩ := (EN.out.chg (K3.out.trans HI.out.2) (fun _ _ e => e)).get hx
 simp only at q0 q1 hset
 have XM := Lib.hid (show (eo, es) ∈ L from List.mem_of_getElem? hx)
 have k4 := chg_alloc (fun _ => False) wr (.cells #[.int .i64 eo, .slice sa es.length sc] 56)
 have OY := Lib.hid (obj_alloc_new wr (.cells #[.int .i64 eo, .slice sa es.length sc] 56))
 have K4 := Lib.hid (HI.out.2.trans k4)
 have SE := Lib.hid (hset.at_.chg k4 (fun _ _ e => e))
 have NX := Lib.hid (show opOver S (L.take (k + 1)) op b = (decide (eo = op) && overB S b es) from by rw [opOver_snoc hx, HI.out.1]; rfl)
 have hel : es.length ≤ maxLen := by obtain ⟨_, _, _, q, _⟩ := hset.at_; exact q
 unfold maxLen at hel
 clear hset k4 HI hx
 go_wp2_with fail
 clear q0 q1
 generalize wr.alloc (.cells #[.int .i64 eo, .slice sa es.length sc] 56) = w5 at *
 generalize wr.heap.size = bY at *
 go_loopw [33] (fun iv wz => ∃ j : Nat, j ≤ es.length ∧ iv = .int .i64 j ∧ Hid ((decide (eo = op) && overB S b (es.take j)) = false ∧ Chg (fun _ => False) w5 wz)) (fun iv _ => es.length - (intOf iv).toNat)
 case atStart => exact ⟨0, by omega, rfl, Lib.hid ⟨by simp [overB], Chg.refl _ _⟩⟩
 case round =>
 obtain ⟨j, hj, rfl, HJ⟩ := hrel
 by_cases hjl : j < es.length
 rotate_left
 · obtain rfl : j = es.length := by omega
   have RF : opOver S (L.take (k + 1)) op b = false := by have := HJ.out.1; rw [List.take_length] at this; rw [NX.out, this]
   have KF := Lib.hid (K4.out.trans HJ.out.2)
   have RF := Lib.hid RF
   clear HJ NX
   go_wp2
   go_roundw
   case rel => exact ⟨k + 1, by omega, by go_num, Lib.hid ⟨RF.out, KF.out⟩⟩
   case measure => simp [intOf]; omega
 obtain ⟨y, hy⟩ : ∃ y, es[j]? = some y := ⟨_, List.getElem?_eq_getElem hjl⟩
 obtain ⟨sa', sc', e1, _, hcl⟩ := SE.out.chg HJ.out.2 (fun _ _ e => e)
 cases e1
 obtain ⟨lb, lo, rfl, _, q0, _⟩ := hcl j y hy
 have YM : y ∈ es := List.mem_of_getElem? hy
 have AL := Lib.hid (ALL.out wr (K4.out.trans HJ.out.2) _ XM.out y YM)
 have ER := ROWS.out _ XM.out y YM
 have YES := Lib.hid (fun (h1 : eo = op) (h2 : rowErr S y b ≠ 0) => opOver_yes XM.out YM h1 h2)
 have NY := Lib.hid (show (decide (eo = op) && overB S b (es.take (j + 1))) = (decide (eo = op) && decide (rowErr S y b ≠ 0)) from by
  have h0 := HJ.out.1
  rw [overB_snoc hy]
  cases hq : decide (eo = op) with
  | false => rfl
  | true => rw [hq, Bool.true_and] at h0; rw [h0]; rfl)
 have K6 := Lib.hid HJ.out.2
 have KX := Lib.hid (K4.out.trans HJ.out.2)
 have y0 := cell_of (o := 0) (K6.out.obj (fun e => e) OY.out) rfl
 obtain ⟨x0, x1, x2, x3, x4, x5⟩ := cells6 (KX.out.obj (fun e => e) OB3.out)
 have r0 := cell_of (o := 0) (KX.out.obj (fun e => e) RB.out) rfl
 have r1 := cell_of (o := 1) (KX.out.obj (fun e => e) RB.out) rfl
 generalize rowErr S y b = ek at *
 clear hcl hy YM HJ
 go_wp2_with fail
 clear x0 x1 x2 x3 x4 x5 y0 r0 r1 q0
 (with_reducible refine (AL.out).mono ?_)
 rintro e w7 ⟨va7, rfl, ⟨_, _, rfl, _, _⟩, k7⟩
 have K7 := Lib.hid (K6.out.trans k7)
 have KY := Lib.hid (KX.out.trans k7)
 have y0 := cell_of (o := 0) (K7.out.obj (fun e => e) OY.out) rfl
 obtain ⟨x0, x1, x2, x3, x4, x5⟩ := cells6 (KY.out.obj (fun e => e) OB3.out)
 clear AL k7 K6 KX
 by_cases ho : eo = op
 · by_cases hk0 : ek = 0
   · have NZ := Lib.hid (show (decide (eo = op) && overB S b (es.take (j + 1))) = false from by rw [NY.out, hk0]; simp)
     subst hk0
     subst ho
     clear YES NY ER
     go_wp2
     go_roundw
     case rel => exact ⟨j + 1, by omega, by go_num, Lib.hid ⟨NZ.out, K7.out⟩⟩
     case measure => simp [intOf]; omega
   · have RT : res = true := by rw [OV.out]; exact YES.out ho hk0
     have ek12 : ek = 12 := ER.resolve_left hk0
     have KF := Lib.hid (K3.out.trans KY.out)
     subst ek12
     subst ho
     subst RT
     clear YES NY ER OV
     go_wp2
     go_ret
     exact ⟨rfl, KF.out⟩
 · have NZ := Lib.hid (show (decide (eo = op) && overB S b (es.take (j + 1))) = false from by rw [NY.out, decide_eq_false ho]; rfl)
   have g : (eo == op) = false := beq_eq_false_iff_ne.2 ho
   clear YES NY ER
   go_wp2
   go_roundw
   case rel => exact ⟨j + 1, by omega, by go_num, Lib.hid ⟨NZ.out, K7.out⟩⟩
   case measure => simp [intOf]; omega
end
end Go.Proofs.YthdfplafihmejaaGreat

namespace Go.Proofs.YthdfplafihmejaaGreat
open Go.RowKit Go.Maps

theorem run_in {R : List BRul} {P : List (BCert × Value)} {L : List BEnt} {op : Int} {c : List ByteArray} {b : Int} (hf : RulesFit R) (fit : Fit17 R (certsOf P) L c) (h : (decE R (certsOf P) L op c b).1 = 0) : RunIn R P L b := by
 obtain ⟨g1, g2, g3, _⟩ := decE_good h
 obtain ⟨l1, l2, l3⟩ := listB_iff.1 g1
 have hb := (argB_iff.1 g2).2
 have hr := refE_ok l3 g3 hb
 have hR : R.length ≤ 400 := by omega
 have hcs : ∀ c ∈ certsOf P, c.sp.size ≤ 140737488355328 ∧ Sizes c.fr := fun c hc => by
  obtain ⟨q1, _, q2⟩ := fit.cert c hc
  exact ⟨by omega, fun x hx => by have := q2 x hx; omega⟩
 refine ⟨hf.1, hcs, fun x hx y hy => by have := (fit.who x hx).2 y hy; omega, fun k hk => accept_err12 hk hr, fun s hs => ?_⟩
 have hsm := fit.small hR
 obtain ⟨f1, f2⟩ := RunOk.few hs (fun r hr => by have := hsm r hr; unfold maxLen; omega)
 refine ⟨.inl ⟨f1, fun r hr => (f2 r hr).1⟩, (accept_fin hs).1.inv.fit47 hf.1 hcs, fun x hx y hy => ?_⟩
 have hm : mayB y.data.toList = true := setB_mayC (new_may l2 x hx) hy
 have h0 : askErr (mayB y.data.toList) b s.rules.length = 0 := by unfold askErr; rw [hm, if_pos rfl, if_neg (by omega), if_neg (by omega)]
 unfold rowErr
 rw [if_pos h0]
 split
 · exact .inr rfl
 · exact .inl rfl
theorem any_snoc {c T : List ByteArray} {k : Nat} {y : ByteArray} (h : T[k]? = some y) : anyB c (T.take (k + 1)) = (anyB c (T.take k) || hasB c y) := by
 unfold anyB
 rw [List.take_add_one, h]; simp
theorem allf_snoc {f : ByteArray → Bool} {l : List ByteArray} {k : Nat} {y : ByteArray} (h : l[k]? = some y) : (l.take (k + 1)).all f = ((l.take k).all f && f y) := by
 rw [List.take_add_one, h]; simp
theorem truth_snoc {S : List BRul} {op b : Int} {c : List ByteArray} {L : List BEnt} {k : Nat} {x : BEnt} (h : L[k]? = some x) : truthB S (L.take (k + 1)) op c b = (truthB S (L.take k) op c b || (decide (x.1 = op) && x.2.all (metB S b c))) := by
 unfold truthB
 rw [List.take_add_one, h]; simp
set_option maxHeartbeats 16000000 in
set_option maxRecDepth 100000 in
theorem true_law (w : World) (xv : Value) (ra : Option Addr) (R : List BRul) (rc : Nat) (pv lv cv : Value) (P : List (BCert × Value)) (L : List BEnt) (op : Int) (c : List ByteArray) (b : Int) (hx : AskArg w xv ra R rc pv lv cv P L op c b) :
  Calls Tryz.prog 5 #[xv] w fun e w' => e = .returned (.bool true) ∧ Chg (fun _ => False) w w' := by
 have HX := Lib.hid hx
 obtain rfl := hx.val
 obtain ⟨la, lcap, rfl, _, _⟩ := hx.certs.at_
 obtain ⟨ea, ec, rfl, _, _⟩ := hx.ents.shape
 obtain ⟨ca, cc, rfl, hcl0, _⟩ := hx.set.at_
 have OX := Lib.hid (obj_alloc_new w (.cells #[.slice ra R.length rc, .slice la P.length lcap, .slice ea L.length ec, .int .i64 op, .slice ca c.length cc, .int .i64 b] 28))
 have K2 := Lib.hid (chg_alloc (fun _ => False) w (.cells #[.slice ra R.length rc, .slice la P.length lcap, .slice ea L.length ec, .int .i64 op, .slice ca c.length cc, .int .i64 b] 28))
 clear hx
 go_enter Tryz.func5, Tryz.ntmps5
 go_wp2_with fail
 generalize w.alloc (.cells #[.slice ra R.length rc, .slice la P.length lcap, .slice ea L.length ec, .int .i64 op, .slice ca c.length cc, .int .i64 b] 28) = w2 at *
 obtain ⟨bx, hbx⟩ : ∃ bx, bx = w.heap.size := ⟨_, rfl⟩
 rw [← hbx] at OX
 rw [← hbx]
 clear hbx
 have BX := Lib.hid (fun (W : World) (k : Chg (fun _ => False) w2 W) => cells6 (k.obj (fun e => e) OX.out))
 have AW := Lib.hid (awake17_any w2)
 (with_reducible refine (AW.out).mono ?_)
 rintro e w3 ⟨rfl, k3⟩
 have E3 := Lib.hid k3
 obtain ⟨c0, c1, c2, c3, c4, c5⟩ := BX.out w3 k3
 have LG := Lib.hid (large17_at HX.out (K2.out.trans k3))
 clear k3 AW
 go_wp2_with fail
 clear c0 c1 c2 c3 c4 c5
 (with_reducible refine (LG.out).mono ?_)
 rintro e w4 ⟨lg, rfl, k4, hlg⟩
 have E4 := Lib.hid (E3.out.trans k4)
 clear LG k4 E3
 obtain ⟨c0, c1, c2, c3, c4, c5⟩ := BX.out w4 E4.out
 cases lg with
 | true =>
  as_aux_lemma =>
  go_wp2
  go_ret
  exact ⟨rfl, K2.out.trans E4.out⟩
 | false =>
 have FIT := Lib.hid (hlg rfl)
 clear hlg
 have hup := HX.out.up.ents
 have hfl := FIT.out.ents
 have A4 := FIT.out.ask HX.out (K2.out.trans E4.out)
 have AA := Lib.hid A4
 have D1 := Lib.hid (adec_any w4 ra R rc _ _ _ P L op c b _ A4)
 clear A4
 go_wp2_with fail
 clear c0 c1 c2 c3 c4 c5
 (with_reducible refine (D1.out).mono ?_)
 rintro e w5 ⟨rfl, k5⟩
 have F5 := Lib.hid k5
 have E5 := Lib.hid (E4.out.trans k5)
 clear D1 k5
 obtain ⟨c0, c1, c2, c3, c4, c5⟩ := BX.out w5 E5.out
 by_cases he : (decE R (certsOf P) L op c b).1 = 0
 rotate_left
 · as_aux_lemma =>
   have g0 : ((decE R (certsOf P) L op c b).1 != 0) = true := bne_iff_ne.2 he
   have g1 : (decE R (certsOf P) L op c b).2.ans = 0 := by rw [decE_bad he]; rfl
   have KF := Lib.hid (K2.out.trans E5.out)
   rw [g1]
   clear he g1 FIT AA
   generalize (decE R (certsOf P) L op c b).1 = e1 at *
   go_wp2
   go_ret
   exact ⟨by simp, KF.out⟩
 have WAYS := Lib.hid (dec_ways he)
 have RI := Lib.hid (run_in HX.out.fit FIT.out he)
 have g0 : ((decE R (certsOf P) L op c b).1 != 0) = false := bne_eq_false_iff_eq.2 he
 rw [he]
 clear he g0
 generalize (decE R (certsOf P) L op c b).2.ans = ans at *
 have OVR := Lib.hid (overs_any w5 ra R rc _ _ _ P L op c b (ask_up AA.out F5.out) RI.out)
 go_wp2_with fail
 clear c0 c1 c2 c3 c4 c5
 (with_reducible refine (OVR.out).mono ?_)
 rintro e w6 ⟨rfl, k6⟩
 have F6 := Lib.hid (F5.out.trans k6)
 have E6 := Lib.hid (E5.out.trans k6)
 clear OVR k6
 obtain ⟨c0, c1, c2, c3, c4, c5⟩ := BX.out w6 E6.out
 cases hov : overV R (certsOf P) L op b with
 | true =>
  as_aux_lemma =>
  have ha : ans ≠ 0 := by
   rcases WAYS.out with ⟨_, _, _, h⟩ | ⟨s, hs, h, _⟩
   · exact h
   · refine h ?_
     unfold overV at hov
     rw [hs] at hov
     exact hov
  have g1 : (ans != 0) = true := bne_iff_ne.2 ha
  have KF := Lib.hid (K2.out.trans E6.out)
  clear WAYS RI hov ha FIT AA
  go_wp2
  go_ret
  exact ⟨rfl, KF.out⟩
 | false =>
 have RUN := Lib.hid (rrun_all w6 ra R rc _ _ _ P L c b (ask_up AA.out F6.out) RI.out)
 go_wp2_with fail
 clear c0 c1 c2 c3 c4 c5
 (with_reducible refine (RUN.out).mono ?_)
 rintro e w7 ⟨k7, ⟨kk, hacc, rfl⟩ | ⟨s, oa, va, oc, vc, hacc, rfl, hall⟩⟩
 · exfalso
   unfold overV at hov
   rw [hacc] at hov
   cases hov
 have TRU := Lib.hid (show (truthB s.rules L op c b = true → ans = 1) ∧ (truthB s.rules L op c b = false → ans = 0) from by
  rcases WAYS.out with ⟨_, h, _⟩ | ⟨s', hs, _, h⟩
  · rw [hacc] at h; cases h
  · rw [hacc] at hs; cases hs
    refine h ?_
    unfold overV at hov
    rw [hacc] at hov
    exact hov)
 have k8 := chg_alloc (fun _ => False) w7 (.cells #[.slice oa s.order.length oc, .slice va s.rules.length vc] 52)
 have ALL := Lib.hid (hall.chg k8)
 have RB := Lib.hid (obj_alloc_new w7 (.cells #[.slice oa s.order.length oc, .slice va s.rules.length vc] 52))
 have F8 := Lib.hid ((F6.out.trans k7).trans k8)
 have E8 := Lib.hid ((E6.out.trans k7).trans k8)
 obtain ⟨c0, c1, c2, c3, c4, c5⟩ := BX.out _ E8.out
 clear RUN k7 hacc hov WAYS RI k8 hall F5 F6 E5 E6
 go_wp2_with fail
 clear c0 c1 c2 c3 c4 c5
 generalize w7.alloc (.cells #[.slice oa s.order.length oc, .slice va s.rules.length vc] 52) = w8 at *
 generalize w7.heap.size = br at *
 generalize s.rules = S at *
 go_loopw [7, 48] (fun tv iv wr => ∃ k : Nat, k ≤ L.length ∧ tv = .bool (truthB S (L.take k) op c b) ∧ iv = .int .i64 k ∧ Hid (Chg (fun _ => False) w8 wr)) (fun _ iv _ => L.length - (intOf iv).toNat)
 case atStart => exact ⟨0, by omega, rfl, rfl, Lib.hid (Chg.refl _ _)⟩
 case round =>
 obtain ⟨k, hk, rfl, rfl, HI⟩ := hrel
 by_cases hlt : k < L.length
 rotate_left
 · as_aux_lemma =>
   obtain rfl : k = L.length := by omega
   rw [List.take_length]
   have KF := Lib.hid ((K2.out.trans E8.out).trans HI.out)
   clear HI
   cases ht : truthB S L op c b with
   | true =>
    obtain rfl : ans = 1 := TRU.out.1 ht
    clear TRU
    go_wp2
    go_ret
    exact ⟨rfl, KF.out⟩
   | false =>
    obtain rfl : ans = 0 := TRU.out.2 ht
    clear TRU
    go_wp2
    go_ret
    exact ⟨rfl, KF.out⟩
 obtain ⟨⟨eo, es⟩, hx⟩ : ∃ x, L[k]? = some x := ⟨_, List.getElem?_eq_getElem hlt⟩
 obtain ⟨g, o, sa, sc, rfl, _, q0, q1, hset⟩ := (AA.out.ents.chg (F8.out.trans HI.out) (fun _ _ e => e)).get hx
 simp only at q0 q1 hset
 have XM := Lib.hid (show (eo, es) ∈ L from List.mem_of_getElem? hx)
 have k9 := chg_alloc (fun _ => False) wr (.cells #[.int .i64 eo, .slice sa es.length sc] 56)
 have OY := Lib.hid (obj_alloc_new wr (.cells #[.int .i64 eo, .slice sa es.length sc] 56))
 have K9 := Lib.hid (HI.out.trans k9)
 have SE := Lib.hid (hset.at_.chg k9 (fun _ _ e => e))
 have NX := Lib.hid (truth_snoc (S := S) (op := op) (b := b) (c := c) hx)
 have hel : es.length ≤ maxLen := by obtain ⟨_, _, _, q, _⟩ := hset.at_; exact q
 unfold maxLen at hel
 obtain ⟨x0, x1, x2, x3, x4, x5⟩ := BX.out _ (E8.out.trans K9.out)
 clear hset k9 HI hx
 by_cases ho : eo = op
 rotate_left
 · have g1 : (eo != op) = true := bne_iff_ne.2 ho
   have NZ := Lib.hid (show truthB S (L.take (k + 1)) op c b = truthB S (L.take k) op c b from by rw [NX.out, decide_eq_false ho, Bool.false_and, Bool.or_false])
   clear NX SE ho
   go_wp2
   go_roundw
   case rel => exact ⟨k + 1, by omega, by rw [NZ.out], by go_num, Lib.hid K9.out⟩
   case measure => simp [intOf]; omega
 subst ho
 have NZ := Lib.hid (show truthB S (L.take (k + 1)) eo c b = (truthB S (L.take k) eo c b || es.all (metB S b c)) from by rw [NX.out]; simp)
 clear NX
 generalize truthB S (L.take k) eo c b = t0 at *
 go_wp2_with fail
 clear q0 q1 x0 x1 x2 x3 x4 x5
 generalize wr.alloc (.cells #[.int .i64 eo, .slice sa es.length sc] 56) = w10 at *
 generalize wr.heap.size = bY at *
 go_loopw [10, 60] (fun tv iv wr => ∃ j : Nat, j ≤ es.length ∧ tv = .bool ((es.take j).all (metB S b c)) ∧ iv = .int .i64 j ∧ Hid (Chg (fun _ => False) w10 wr)) (fun _ iv _ => es.length - (intOf iv).toNat)
 case atStart => exact ⟨0, by omega, rfl, rfl, Lib.hid (Chg.refl _ _)⟩
 case round =>
 obtain ⟨j, hj, rfl, rfl, HJ⟩ := hrel
 by_cases hjl : j < es.length
 rotate_left
 · obtain rfl : j = es.length := by omega
   rw [List.take_length]
   have KF := Lib.hid (K9.out.trans HJ.out)
   clear HJ
   generalize es.all (metB S b c) = m1 at *
   cases t0 with
   | true =>
    go_wp2
    go_roundw
    case rel => exact ⟨k + 1, by omega, by rw [NZ.out]; rfl, by go_num, Lib.hid KF.out⟩
    case measure => simp [intOf]; omega
   | false =>
    go_wp2
    go_roundw
    case rel => exact ⟨k + 1, by omega, by rw [NZ.out]; rfl, by go_num, Lib.hid KF.out⟩
    case measure => simp [intOf]; omega
 obtain ⟨y, hy⟩ : ∃ y, es[j]? = some y := ⟨_, List.getElem?_eq_getElem hjl⟩
 obtain ⟨sa', sc', e1, _, hcl⟩ := SE.out.chg HJ.out (fun _ _ e => e)
 cases e1
 obtain ⟨lb, lo, rfl, _, q0, _⟩ := hcl j y hy
 have KX := Lib.hid (K9.out.trans HJ.out)
 have AL := Lib.hid (ALL.out wr KX.out _ XM.out y (List.mem_of_getElem? hy))
 have NY := Lib.hid (show (es.take (j + 1)).all (metB S b c) = ((es.take j).all (metB S b c) && anyB c (tellL S y b)) from allf_snoc hy)
 have K11 := Lib.hid HJ.out
 obtain ⟨x0, x1, x2, x3, x4, x5⟩ := BX.out _ (E8.out.trans KX.out)
 have r0 := cell_of (o := 0) (KX.out.obj (fun e => e) RB.out) rfl
 have r1 := cell_of (o := 1) (KX.out.obj (fun e => e) RB.out) rfl
 generalize rowErr S y b = ek at *
 generalize tellL S y b = T at *
 generalize (es.take j).all (metB S b c) = t1 at *
 clear hcl hy HJ
 go_wp2_with fail
 clear x0 x1 x2 x3 x4 x5 r0 r1 q0
 (with_reducible refine (AL.out).mono ?_)
 rintro e w12 ⟨va7, rfl, hT, k12⟩
 have HT := Lib.hid hT
 obtain ⟨ta, tc, rfl, htl, _⟩ := hT
 unfold maxLen at htl
 have K12 := Lib.hid (K11.out.trans k12)
 have KY := Lib.hid (KX.out.trans k12)
 clear AL k12 K11 KX
 go_wp2_with fail
 go_loopw [15, 75] (fun tv iv wr => ∃ i : Nat, i ≤ T.length ∧ tv = .bool (anyB c (T.take i)) ∧ iv = .int .i64 i ∧ Hid (Chg (fun _ => False) w12 wr)) (fun _ iv _ => T.length - (intOf iv).toNat)
 case atStart => exact ⟨0, by omega, rfl, rfl, Lib.hid (Chg.refl _ _)⟩
 case round =>
 obtain ⟨i, hi, rfl, rfl, HQ⟩ := hrel
 by_cases hil : i < T.length
 rotate_left
 · obtain rfl : i = T.length := by omega
   rw [List.take_length]
   have KF := Lib.hid (K12.out.trans HQ.out)
   clear HQ
   generalize anyB c T = m1 at *
   cases t1 with
   | true =>
    go_wp2
    go_roundw
    case rel => exact ⟨j + 1, by omega, by rw [NY.out]; rfl, by go_num, Lib.hid KF.out⟩
    case measure => simp [intOf]; omega
   | false =>
    go_wp2
    go_roundw
    case rel => exact ⟨j + 1, by omega, by rw [NY.out]; rfl, by go_num, Lib.hid KF.out⟩
    case measure => simp [intOf]; omega
 obtain ⟨z, hz⟩ : ∃ z, T[i]? = some z := ⟨_, List.getElem?_eq_getElem hil⟩
 obtain ⟨ta', tc', e1, _, hcl⟩ := HT.out.chg HQ.out (fun _ _ e => e)
 cases e1
 obtain ⟨lb2, lo2, rfl, _, q0, _⟩ := hcl i z hz
 have KZ := Lib.hid (KY.out.trans HQ.out)
 have NI := Lib.hid (any_snoc (c := c) hz)
 have HAS := Lib.hid (rhas_any wr _ _ c z (AA.out.set.chg (F8.out.trans KZ.out) (fun _ _ e => e)))
 have K13 := Lib.hid HQ.out
 obtain ⟨x0, x1, x2, x3, x4, x5⟩ := BX.out _ (E8.out.trans KZ.out)
 generalize hasB c z = hz2 at *
 generalize anyB c (T.take i) = t2 at *
 clear hcl hz HQ
 cases t2 with
 | true =>
  go_wp2
  go_roundw
  case rel => exact ⟨i + 1, by omega, by rw [NI.out]; rfl, by go_num, Lib.hid K13.out⟩
  case measure => simp [intOf]; omega
 | false =>
  go_wp2_with fail
  (with_reducible refine (HAS.out).mono ?_)
  rintro e w14 ⟨rfl, rfl⟩
  clear HAS
  go_wp2
  go_roundw
  case rel => exact ⟨i + 1, by omega, by rw [NI.out]; rfl, by go_num, Lib.hid K13.out⟩
  case measure => simp [intOf]; omega
end Go.Proofs.YthdfplafihmejaaGreat

namespace Go.Proofs.YthdfplafihmejaaGreat.DecideTrueP
open Go.ChangeShapes Go.WideShapes Go.ChangeAt Go.RowKit

set_option maxRecDepth 100000 in
theorem lifted (os : Os) (started : os.Started) (H : Type) (enc : TypeId × Value → H) (F : Stop.Interp) :
  ReturnsInHanded {} Tryz.checked os 5 .any ((Rows.OpenSpec.upto Rows.decideTrueSpec).pre6 enc Tryz.prog Tryz.f5 Rows.decideTrueUptoRow.domain false) (((Rows.OpenSpec.upto Rows.decideTrueSpec).at F).post enc Tryz.prog Tryz.f5 false true false false) := by
 refine returnsInHanded_of_cond_sized (C := Tryz.checked) (s := Rows.OpenSpec.upto Rows.decideTrueSpec) (k := Rows.uptoSmall) rfl Tryz.own started (by kernel_rfl) Tryz.func5
  (OpenSpec.witness (enc := enc) (C := Tryz.checked) (s := Rows.OpenSpec.upto Rows.decideTrueSpec) (k := Rows.uptoSmall) rfl false ⟨#[], #[.agg #[.slice none 0 0, .slice none 0 0, .slice none 0 0, .int .i64 0, .slice none 0 0, .int .i64 0]], []⟩ 8 (by kernel_rfl) (by kernel_rfl) (by kernel_rfl)
   (x := ([.agg [.nil, .nil, .nil, .lit (.int .i64 0), .nil, .lit (.int .i64 0)]], [], [])) (by kernel_rfl) rfl (by kernel_rfl)) ?_
 intro W base args ds gs before hval0 hW hcnd hk hsz _
 have hval : ∀ (j : Nat) t v, Tryz.f5.params[j]? = some t → args[j]? = some v → Value.okWide Tryz.prog W .any base t v := hval0
 have hW' := hW
 obtain ⟨p, q, hA0, hV, rfl, hfz, hnd⟩ := hW
 have hA : DataW.TrodAll enc Tryz.prog W 0 (fun _ => true) true Tryz.f5.params.toList args.toList ds p := hA0
 rw [Tryz.params5] at hA hval
 obtain ⟨v0, vs0, d0, ds0, p0, q0, hargs, rfl, rfl, h0, r0⟩ := trodAll_cons hA
 obtain ⟨rfl, rfl, rfl⟩ := trodAll_nil r0
 obtain rfl : args = #[v0] := by cases args; simp_all
 obtain ⟨rfl, rfl⟩ := trodVars_none hV
 have lt0 : ∀ x ∈ p0, x.block < W.heap.size := by obtain ⟨m, hm⟩ := h0; exact DataW.trod_lt m _ _ _ hm
 have k0 := h0
 obtain ⟨cs0, rfl, _⟩ := okWide_struct Tryz.underlying28 (hval 0 28 v0 rfl rfl)
 obtain ⟨ra, R, rc, pv, lv, cv, P, L, op, c, b, hask⟩ := askArg_of h0 (by have := bulk_part (d := d0) (l := [d0]) (by simp); simp only [List.append_nil] at hk; have hk := of_decide_eq_true hk; omega) (fun x hx => by have := List.all_eq_true.1 hsz x (DataW.weights_mem_each (j := 0) rfl rfl x hx); simpa using this)
 clear hA0 hval0
 refine (true_law W _ ra R rc pv lv cv P L op c b  hask).mono fun e W' ⟨he, hc⟩ => ?_
 subst he
 have bel : Below W.heap.size W W' := hc.below (fun _ _ e => e) (Nat.le_refl _)
 exact ⟨_, rfl, _, _, _, [], _, [], hW', trodAll_mk1 (shut_bool Tryz.underlying4 _), (trodAll_cons_mk (Below.trod Tryz.laidOut (by kernel_rfl) (of_decide_eq_true (by kernel_rfl)) k0 bel lt0) trodAll_mk0), rfl, bel.frame _, fun h => by cases h⟩

theorem over : Rows.DecideTrueUptoSaid :=
 OpenClaim.holds_of_cond 5 Tryz.f5 rfl rfl rfl rfl rfl rfl rfl ⟨rfl, rfl, rfl, rfl, rfl⟩ rfl rfl rfl rfl rfl (by kernel_rfl) Tryz.func5 (by kernel_rfl)
  (of_decide_eq_true (by kernel_rfl)) (by unfold Func.isWrapper; first | (rw [if_pos (by decide +kernel)]; kernel_rfl) | (rw [if_neg (by decide +kernel)]; exact ⟨rfl, rfl⟩))
  (fun os started H enc _ F => lifted os started H enc F)
end Go.Proofs.YthdfplafihmejaaGreat.DecideTrueP
namespace Go.Proofs.YthdfplafihmejaaGreat
theorem decideTrue_holds : Rows.DecideTrueUptoSaid := DecideTrueP.over
end Go.Proofs.YthdfplafihmejaaGreat
