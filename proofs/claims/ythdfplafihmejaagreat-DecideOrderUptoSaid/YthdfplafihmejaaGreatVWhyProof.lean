/-
  DecideWhy, walked.
  Each grant has a why that the look takes, and the look takes none, where the answer is Deny.
  (Where what is read is of bulk at most 1048576.)
-/
import Derived.Test.YthdfplafihmejaaGreatVArgs
import Derived.Test.YthdfplafihmejaaGreatVAwake
import Derived.Test.YthdfplafihmejaaGreatVLarge
import Derived.Test.YthdfplafihmejaaGreatVWrap
import Derived.Deep.CondSized
namespace Go.Proofs.YthdfplafihmejaaGreat
open Go.RowKit Go.Maps

theorem Fit17.small {R : List BRul} {C : List BCert} {L : List BEnt} {c : List ByteArray} (h : Fit17 R C L c) (h4 : R.length ≤ 400) : ∀ r ∈ R, r.1.size ≤ 100 ∧ r.2.size ≤ 100 := by
 have := h.word
 rwa [List.take_of_length_le (by omega)] at this
theorem Fit17.ask {R : List BRul} {P : List (BCert × Value)} {L : List BEnt} {c : List ByteArray} (h : Fit17 R (certsOf P) L c) {w W : World} {xv : Value} {ra : Option Addr} {rc : Nat} {pv lv cv : Value} {op b : Int} (hx : AskArg w xv ra R rc pv lv cv P L op c b) (k : Chg (fun _ => False) w W) : AskAt W ra R rc pv lv cv P L c (· < W.heap.size) :=
 ⟨⟨(hx.rules.at_.chg k (fun _ _ e => e)).imp (fun _ hj => Nat.lt_of_lt_of_le hj k.size), fun e => hx.rules.nil _ _ (by rw [e]), by have := hx.fit.2; omega, fun h4 r hr => by have := (h.small h4 r hr).1; omega, (hx.certs.at_.chg k (fun _ _ e => e)).up (fun _ hj => Nat.lt_of_lt_of_le hj k.size), by have := h.certs; rw [certsOf_length] at this; omega, fun _ hj => hj⟩,
  (hx.ents.chg k (fun _ _ e => e)).up (fun _ hj => Nat.lt_of_lt_of_le hj k.size), by have := h.ents; omega, (hx.set.at_.chg k (fun _ _ e => e)).up (fun _ hj => Nat.lt_of_lt_of_le hj k.size)⟩
theorem AskAt.chk {w : World} {ra : Option Addr} {R : List BRul} {rc : Nat} {v lv cv : Value} {P : List (BCert × Value)} {L : List BEnt} {c : List ByteArray} (h : AskAt w ra R rc v lv cv P L c (· < w.heap.size)) (hm : R.length ≤ 1048576) : ChkIn17 w ra R rc v P :=
 ⟨h.run.rules, h.run.nil, by omega, h.run.certs, h.run.few⟩
theorem large17_at {w W : World} {xv : Value} {ra : Option Addr} {R : List BRul} {rc : Nat} {pv lv cv : Value} {P : List (BCert × Value)} {L : List BEnt} {op : Int} {c : List ByteArray} {b : Int} (hx : AskArg w xv ra R rc pv lv cv P L op c b) (k : Chg (fun _ => False) w W) : Calls Tryz.prog 10 #[.agg #[.slice ra R.length rc, pv, lv, .int .i64 op, cv, .int .i64 b]] W (Large17Res W R (certsOf P) L c) :=
 large17_any W ra R rc pv lv cv P L op b c ((hx.rules.at_.chg k (fun _ _ e => e)).imp (fun _ hj => Nat.lt_of_lt_of_le hj k.size)) ((hx.certs.at_.chg k (fun _ _ e => e)).up (fun _ hj => Nat.lt_of_lt_of_le hj k.size)) ((hx.ents.chg k (fun _ _ e => e)).up (fun _ hj => Nat.lt_of_lt_of_le hj k.size)) ((hx.set.chg k (fun _ _ e => e)).up (fun _ hj => Nat.lt_of_lt_of_le hj k.size)) hx.up
theorem expl_bad {R : List BRul} {C : List BCert} {L : List BEnt} {op : Int} {c : List ByteArray} {b : Int} (h : (decE R C L op c b).1 ≠ 0) : explE R C L op c b = (0, ⟨0, [], []⟩, (decE R C L op c b).1) := by
 unfold explE
 rw [if_neg (fun q => h q.1), decE_bad h]; rfl
theorem expl_not {R : List BRul} {C : List BCert} {L : List BEnt} {op : Int} {c : List ByteArray} {b : Int} (h0 : (decE R C L op c b).1 = 0) (h : (decE R C L op c b).2.ans ≠ 1) : explE R C L op c b = ((decE R C L op c b).2.ans, ⟨0, [], []⟩, 0) := by
 unfold explE
 rw [if_neg (fun q => h q.2), h0]; rfl
theorem expl_yes {R : List BRul} {C : List BCert} {L : List BEnt} {op : Int} {c : List ByteArray} {b : Int} (h0 : (decE R C L op c b).1 = 0) (h : (decE R C L op c b).2.ans = 1) : explE R C L op c b = (1, whyE R C L c b (decE R C L op c b).2, 0) := if_pos ⟨h0, h⟩
theorem cells3 {w : World} {b : Nat} {a0 a1 a2 : Value} {t : TypeId} {f : Nat × Nat} (h : w.heap[b]? = some (.cells #[a0, a1, a2] t f)) : w.cell? ⟨b, 0, none⟩ = some a0 ∧ w.cell? ⟨b, 1, none⟩ = some a1 ∧ w.cell? ⟨b, 2, none⟩ = some a2 :=
 ⟨cell_of (o := 0) h rfl, cell_of (o := 1) h rfl, cell_of (o := 2) h rfl⟩
set_option maxHeartbeats 8000000 in
set_option maxRecDepth 100000 in
theorem why_law (w : World) (xv yv : Value) (ra : Option Addr) (R : List BRul) (rc : Nat) (pv lv cv : Value) (P : List (BCert × Value)) (L : List BEnt) (op : Int) (c : List ByteArray) (b : Int) (y : BWhy) (hx : AskArg w xv ra R rc pv lv cv P L op c b) (hy : WhyArg w yv y) :
  Calls Tryz.prog 6 #[xv, yv] w fun e w' => e = .returned (.bool true) ∧ Chg (fun _ => False) w w' := by
 have HX := Lib.hid hx
 obtain rfl := hx.val
 obtain ⟨tv, qv, rfl, hya, hyf⟩ := hy
 have HY := Lib.hid hya
 obtain ⟨la, lcap, rfl, _, _⟩ := hx.certs.at_
 obtain ⟨ea, ec, rfl, _, _⟩ := hx.ents.shape
 obtain ⟨ca, cc, rfl, _, _⟩ := hx.set.at_
 obtain ⟨ta, tc, rfl, htl, _⟩ := hya.ways
 obtain ⟨qa, qc, rfl, hql, _⟩ := hya.proofs
 unfold maxLen at htl hql
 have k1 := chg_alloc (fun _ => False) w (.cells #[.slice ra R.length rc, .slice la P.length lcap, .slice ea L.length ec, .int .i64 op, .slice ca c.length cc, .int .i64 b] 28)
 have k2 := chg_alloc (fun _ => False) (w.alloc (.cells #[.slice ra R.length rc, .slice la P.length lcap, .slice ea L.length ec, .int .i64 op, .slice ca c.length cc, .int .i64 b] 28)) (.cells #[.int .i64 y.entry, .slice ta y.ways.length tc, .slice qa y.proofs.length qc] 39)
 have o2 := obj_alloc_new (w.alloc (.cells #[.slice ra R.length rc, .slice la P.length lcap, .slice ea L.length ec, .int .i64 op, .slice ca c.length cc, .int .i64 b] 28)) (.cells #[.int .i64 y.entry, .slice ta y.ways.length tc, .slice qa y.proofs.length qc] 39)
 rw [World.size_alloc] at o2
 have OX := Lib.hid (k2.obj (fun e => e) (obj_alloc_new w (.cells #[.slice ra R.length rc, .slice la P.length lcap, .slice ea L.length ec, .int .i64 op, .slice ca c.length cc, .int .i64 b] 28)))
 have OY := Lib.hid o2
 have K2 := Lib.hid (k1.trans k2)
 clear hx hya hyf k1 k2 o2
 go_enter Tryz.func6, Tryz.ntmps6
 go_wp2_with fail
 generalize (w.alloc (.cells #[.slice ra R.length rc, .slice la P.length lcap, .slice ea L.length ec, .int .i64 op, .slice ca c.length cc, .int .i64 b] 28)).alloc (.cells #[.int .i64 y.entry, .slice ta y.ways.length tc, .slice qa y.proofs.length qc] 39) = w2 at *
 generalize w.heap.size + 1 = by_ at *
 obtain ⟨bx, hbx⟩ : ∃ bx, bx = w.heap.size := ⟨_, rfl⟩
 rw [← hbx] at OX
 rw [← hbx]
 clear hbx
 have BX := Lib.hid (fun (W : World) (k : Chg (fun _ => False) w2 W) => cells6 (k.obj (fun e => e) OX.out))
 have BY := Lib.hid (fun (W : World) (k : Chg (fun _ => False) w2 W) => cells3 (k.obj (fun e => e) OY.out))
 have AW := Lib.hid (awake17_any w2)
 (with_reducible refine (AW.out).mono ?_)
 rintro e w3 ⟨rfl, k3⟩
 have E3 := Lib.hid k3
 obtain ⟨c0, c1, c2, c3, c4, c5⟩ := BX.out w3 k3
 have LG := Lib.hid (large17_at HX.out (K2.out.trans k3))
 clear k3 AW
 go_wp2_with fail
 (with_reducible refine (LG.out).mono ?_)
 rintro e w4 ⟨lg, rfl, k4, hlg⟩
 have E4 := Lib.hid (E3.out.trans k4)
 clear LG k4 E3 c0 c1 c2 c3 c4 c5
 obtain ⟨d0, d1, d2⟩ := BY.out w4 E4.out
 cases lg with
 | true =>
  go_wp2
  go_ret
  exact ⟨rfl, K2.out.trans E4.out⟩
 | false =>
 have FIT := Lib.hid (hlg rfl)
 clear hlg
 have LO := Lib.hid (long17_any w4 _ _ _ y (HY.out.chg (K2.out.trans E4.out) (fun _ _ e => e)))
 go_wp2_with fail
 (with_reducible refine (LO.out).mono ?_)
 rintro e w5 ⟨lo, rfl, k5, hlo⟩
 have E5 := Lib.hid (E4.out.trans k5)
 clear LO k5 E4 d0 d1 d2
 cases lo with
 | true =>
  go_wp2
  go_ret
  exact ⟨rfl, K2.out.trans E5.out⟩
 | false =>
 have SH := Lib.hid (hlo rfl)
 clear hlo
 have ASK := Lib.hid (fun (W : World) (k : Chg (fun _ => False) w2 W) => FIT.out.ask HX.out (K2.out.trans k))
 have EX := Lib.hid (aexp_any w5 ra R rc _ _ _ P L op c b _ (ASK.out w5 E5.out))
 have CHK := Lib.hid (fun (W : World) (k : Chg (fun _ => False) w2 W) tv pv z (hz : WhyAt W tv pv (· < W.heap.size) z) (hf : WhyFit z) => vcheck_any W ra R rc _ _ _ tv pv P L op c z _ _ ((ASK.out W k).chk HX.out.up.rules) (ASK.out W k).ents (ASK.out W k).few (ASK.out W k).set hz hf)
 have CL := Lib.hid (show (certsOf P).length ≤ 1000 from by have := FIT.out.certs; omega)
 have X1 := Lib.hid (@expl_bad R (certsOf P) L op c b)
 have X2 := Lib.hid (@expl_not R (certsOf P) L op c b)
 have X3 := Lib.hid (@expl_yes R (certsOf P) L op c b)
 have X4 := Lib.hid (@why_right R (certsOf P) L op c b)
 have X5 := Lib.hid (@why_none R (certsOf P) L op c b)
 have X6 := Lib.hid (@why_fit R (certsOf P) L op c b)
 clear HX ASK FIT
 generalize explE R (certsOf P) L op c b = q at *
 generalize decE R (certsOf P) L op c b = dq at *
 obtain ⟨c0, c1, c2, c3, c4, c5⟩ := BX.out w5 E5.out
 go_wp2_with fail
 clear c0 c1 c2 c3 c4 c5
 (with_reducible refine (EX.out).mono ?_)
 rintro e w6 ⟨k6, tv, pv, rfl, hz⟩
 have kb := chg_alloc (fun _ => False) w6 (.cells #[.int .i64 q.2.1.entry, tv, pv] 39)
 have OZ := Lib.hid (obj_alloc_new w6 (.cells #[.int .i64 q.2.1.entry, tv, pv] 39))
 have E7 := Lib.hid (E5.out.trans (k6.trans kb))
 have HZ := Lib.hid ((hz.chg kb (fun _ _ e => e)).up (fun j hj => Nat.lt_of_lt_of_le hj.2 kb.size))
 obtain ⟨za, zc, rfl, hzl, _⟩ := hz.ways
 obtain ⟨pa, pc, rfl, hpl, _⟩ := hz.proofs
 unfold maxLen at hzl hpl
 clear EX k6 kb hz E5
 by_cases hk : dq.1 = 0
 rotate_left
 · as_aux_lemma =>
   have Q := X1.out hk
   obtain ⟨q1, q2⟩ := dq
   subst Q
   have g1 : (q1 != 0) = true := by rw [bne_iff_ne]; exact hk
   have z1 := cell_of (o := 1) OZ.out rfl
   simp only [List.length_nil] at z1 OZ E7
   clear X1 X2 X3 X4 X5 X6 hk HZ CHK
   go_wp2
   go_ret
   exact ⟨rfl, K2.out.trans E7.out⟩
 by_cases ha : dq.2.ans = 1
 · as_aux_lemma =>
   have Q := X3.out hk ha
   have R4 := Lib.hid (X4.out hk ha)
   have R6 := Lib.hid (X6.out hk ha CL.out)
   obtain ⟨q1, q2⟩ := dq
   simp only at Q R4 R6
   generalize whyE R (certsOf P) L c b q2 = yz at *
   subst Q
   clear X1 X2 X3 X4 X5 X6 hk ha
   simp only at OZ E7 HZ hzl hpl
   obtain ⟨c0, c1, c2, c3, c4, c5⟩ := BX.out _ E7.out
   obtain ⟨z0, z1, z2⟩ := cells3 OZ.out
   have CK := CHK.out _ E7.out _ _ yz HZ.out ⟨R6.out⟩
   rw [R4.out] at CK
   have CK := Lib.hid CK
   clear CHK R4 R6 HZ OZ
   go_wp2_with fail
   (with_reducible refine (CK.out).mono ?_)
   rintro e w8 ⟨rfl, k8⟩
   clear c0 c1 c2 c3 c4 c5 z0 z1 z2
   go_wp2
   go_ret
   exact ⟨rfl, K2.out.trans (E7.out.trans k8)⟩
 have Q := X2.out hk ha
 have R5 := Lib.hid (fun h => X5.out hk h y)
 obtain ⟨q1, ⟨an, q2, q3, q4⟩⟩ := dq
 simp only at Q R5 ha
 subst Q
 have g1 : (an == 1) = false := by rw [beq_eq_false_iff_ne]; exact ha
 simp only [List.length_nil] at OZ E7 HZ
 obtain ⟨z0, z1, z2⟩ := cells3 OZ.out
 clear X1 X2 X3 X4 X5 X6 hk ha HZ OZ hzl hpl
 by_cases h0 : an = 0
 · as_aux_lemma =>
   have R := Lib.hid (R5.out h0)
   have g2 : (an != 0) = false := by rw [bne_eq_false_iff_eq]; exact h0
   obtain ⟨c0, c1, c2, c3, c4, c5⟩ := BX.out _ E7.out
   obtain ⟨d0, d1, d2⟩ := BY.out _ E7.out
   have CK := Lib.hid (CHK.out _ E7.out _ _ y ((HY.out.chg (K2.out.trans E7.out) (fun _ _ e => e)).up (fun _ hj => Nat.lt_of_lt_of_le hj (K2.out.trans E7.out).size)) ⟨fun p hp => by have := (SH.out.proof p hp).items; omega⟩)
   generalize chkE _ _ _ _ _ y = ck at *
   have g3 : (ck != 0) = true := by rw [bne_iff_ne]; exact R.out
   clear CHK R5 R h0
   go_wp2_with fail
   (with_reducible refine (CK.out).mono ?_)
   rintro e w8 ⟨rfl, k8⟩
   clear c0 c1 c2 c3 c4 c5 z0 z1 z2 d0 d1 d2
   go_wp2
   go_ret
   exact ⟨rfl, K2.out.trans (E7.out.trans k8)⟩
 · as_aux_lemma =>
   have g2 : (an != 0) = true := by rw [bne_iff_ne]; exact h0
   clear h0 R5 CHK
   go_wp2
   go_ret
   exact ⟨rfl, K2.out.trans E7.out⟩
end Go.Proofs.YthdfplafihmejaaGreat

namespace Go.Proofs.YthdfplafihmejaaGreat.DecideWhyP
open Go.ChangeShapes Go.WideShapes Go.ChangeAt Go.RowKit

set_option maxRecDepth 100000 in
theorem lifted (os : Os) (started : os.Started) (H : Type) (enc : TypeId × Value → H) (F : Stop.Interp) :
  ReturnsInHanded {} Tryz.checked os 6 .any ((Rows.OpenSpec.upto Rows.decideWhySpec).pre6 enc Tryz.prog Tryz.f6 Rows.decideWhyUptoRow.domain false) (((Rows.OpenSpec.upto Rows.decideWhySpec).at F).post enc Tryz.prog Tryz.f6 false true false false) := by
 refine returnsInHanded_of_cond_sized (C := Tryz.checked) (s := Rows.OpenSpec.upto Rows.decideWhySpec) (k := Rows.uptoSmall) rfl Tryz.own started (by kernel_rfl) Tryz.func6
  (OpenSpec.witness (enc := enc) (C := Tryz.checked) (s := Rows.OpenSpec.upto Rows.decideWhySpec) (k := Rows.uptoSmall) rfl false ⟨#[], #[.agg #[.slice none 0 0, .slice none 0 0, .slice none 0 0, .int .i64 0, .slice none 0 0, .int .i64 0], .agg #[.int .i64 0, .slice none 0 0, .slice none 0 0]], []⟩ 8 (by kernel_rfl) (by kernel_rfl) (by kernel_rfl)
   (x := ([.agg [.nil, .nil, .nil, .lit (.int .i64 0), .nil, .lit (.int .i64 0)], .agg [.lit (.int .i64 0), .nil, .nil]], [], [])) (by kernel_rfl) rfl (by kernel_rfl)) ?_
 intro W base args ds gs before hval0 hW hcnd hk hsz _
 have hval : ∀ (j : Nat) t v, Tryz.f6.params[j]? = some t → args[j]? = some v → Value.okWide Tryz.prog W .any base t v := hval0
 have hW' := hW
 obtain ⟨p, q, hA0, hV, rfl, hfz, hnd⟩ := hW
 have hA : DataW.TrodAll enc Tryz.prog W 0 (fun _ => true) true Tryz.f6.params.toList args.toList ds p := hA0
 rw [Tryz.params6] at hA hval
 obtain ⟨v0, vs0, d0, ds0, p0, q0, hargs, rfl, rfl, h0, r0⟩ := trodAll_cons hA
 obtain ⟨v1, vs1, d1, ds1, p1, q1, rfl, rfl, rfl, h1, r1⟩ := trodAll_cons r0
 obtain ⟨rfl, rfl, rfl⟩ := trodAll_nil r1
 obtain rfl : args = #[v0, v1] := by cases args; simp_all
 obtain ⟨rfl, rfl⟩ := trodVars_none hV
 have lt0 : ∀ x ∈ p0, x.block < W.heap.size := by obtain ⟨m, hm⟩ := h0; exact DataW.trod_lt m _ _ _ hm
 have lt1 : ∀ x ∈ p1, x.block < W.heap.size := by obtain ⟨m, hm⟩ := h1; exact DataW.trod_lt m _ _ _ hm
 have k0 := h0
 have k1 := h1
 obtain ⟨cs0, rfl, _⟩ := okWide_struct Tryz.underlying28 (hval 0 28 v0 rfl rfl)
 obtain ⟨ra, R, rc, pv, lv, cv, P, L, op, c, b, hask⟩ := askArg_of h0 (by have := bulk_part (d := d0) (l := [d0, d1]) (by simp); simp only [List.append_nil] at hk; have hk := of_decide_eq_true hk; omega) (fun x hx => by have := List.all_eq_true.1 hsz x (DataW.weights_mem_each (j := 0) rfl rfl x hx); simpa using this)
 obtain ⟨cs1, rfl, _⟩ := okWide_struct Tryz.underlying39 (hval 1 39 v1 rfl rfl)
 obtain ⟨y1, hy1⟩ := whyArg_of h1
 clear hA0 hval0
 refine (why_law W _ _ ra R rc pv lv cv P L op c b y1 hask hy1).mono fun e W' ⟨he, hc⟩ => ?_
 subst he
 have bel : Below W.heap.size W W' := hc.below (fun _ _ e => e) (Nat.le_refl _)
 exact ⟨_, rfl, _, _, _, [], _, [], hW', trodAll_mk1 (shut_bool Tryz.underlying4 _), (trodAll_cons_mk (Below.trod Tryz.laidOut (by kernel_rfl) (of_decide_eq_true (by kernel_rfl)) k0 bel lt0) (trodAll_cons_mk (Below.trod Tryz.laidOut (by kernel_rfl) (of_decide_eq_true (by kernel_rfl)) k1 bel lt1) trodAll_mk0)), rfl, bel.frame _, fun h => by cases h⟩

theorem over : Rows.DecideWhyUptoSaid :=
 OpenClaim.holds_of_cond 6 Tryz.f6 rfl rfl rfl rfl rfl rfl rfl ⟨rfl, rfl, rfl, rfl, rfl⟩ rfl rfl rfl rfl rfl (by kernel_rfl) Tryz.func6 (by kernel_rfl)
  (of_decide_eq_true (by kernel_rfl)) (by unfold Func.isWrapper; first | (rw [if_pos (by decide +kernel)]; kernel_rfl) | (rw [if_neg (by decide +kernel)]; exact ⟨rfl, rfl⟩))
  (fun os started H enc _ F => lifted os started H enc F)
end Go.Proofs.YthdfplafihmejaaGreat.DecideWhyP
namespace Go.Proofs.YthdfplafihmejaaGreat
theorem decideWhy_holds : Rows.DecideWhyUptoSaid := DecideWhyP.over
end Go.Proofs.YthdfplafihmejaaGreat
