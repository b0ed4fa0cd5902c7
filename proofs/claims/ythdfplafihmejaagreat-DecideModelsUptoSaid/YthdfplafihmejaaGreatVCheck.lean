/-
  Package decide: Check.
-/
import Derived.Test.YthdfplafihmejaaGreatVExplain
import Derived.Test.YthdfplafihmejaaGreatQCheck
namespace Go.Proofs.YthdfplafihmejaaGreat
open Go.RowKit Go.Maps

/-- What a why's parts want, to be looked through. -/
structure WhyFit (y : BWhy) : Prop where
 proof : ∀ p ∈ y.proofs, p.items.length ≤ 1000
structure ChkIn17 (w : World) (ra : Option Addr) (R : List BRul) (rc : Nat) (v : Value) (P : List (BCert × Value)) : Prop where
 rules : RulesAt w (.slice ra R.length rc) (· < w.heap.size) R
 nil : ra = none → R.length = 0 ∧ rc = 0
 many : R.length ≤ 1000000000
 certs : CertsAt w v (· < w.heap.size) P
 few : P.length ≤ 1000
theorem ChkIn17.chg {w w' : World} {ra : Option Addr} {R : List BRul} {rc : Nat} {v : Value} {P : List (BCert × Value)} (h : ChkIn17 w ra R rc v P) (k : Chg (fun _ => False) w w') : ChkIn17 w' ra R rc v P :=
 ⟨(h.rules.chg k (fun _ _ e => e)).imp (fun _ hj => Nat.lt_of_lt_of_le hj k.size), h.nil, h.many, (h.certs.chg k (fun _ _ e => e)).up (fun _ hj => Nat.lt_of_lt_of_le hj k.size), h.few⟩
theorem chkE_form {R : List BRul} {C : List BCert} {L : List BEnt} {op : Int} {c : List ByteArray} {y : BWhy} (h : listB C L c = false) : chkE R C L op c y = 2 := by unfold chkE; rw [if_neg (by rw [h]; decide)]
theorem chkE_op {R : List BRul} {C : List BCert} {L : List BEnt} {op : Int} {c : List ByteArray} {y : BWhy} (h : listB C L c = true) (h2 : opB op = false) : chkE R C L op c y = 1 := by
 unfold chkE
 rw [if_pos h, if_neg (fun q => by unfold opB at h2; rw [decide_eq_true q.1, decide_eq_true q.2] at h2; cases h2)]
theorem chkE_none {R : List BRul} {C : List BCert} {L : List BEnt} {op : Int} {c : List ByteArray} {y : BWhy} (h : listB C L c = true) (h2 : opB op = true) (h3 : ¬ (atB L op y.entry = true ∧ (y.ways.length = (whoE L y.entry).length ∧ y.proofs.length = (whoE L y.entry).length) ∧ y.ways.all (toB c) = true)) : chkE R C L op c y = 10 := by
 unfold chkE
 unfold opB at h2
 rw [Bool.and_eq_true, decide_eq_true_iff, decide_eq_true_iff] at h2
 rw [if_pos h, if_pos h2, if_neg h3]
theorem chkE_go {R : List BRul} {C : List BCert} {L : List BEnt} {op : Int} {c : List ByteArray} {y : BWhy} (h : listB C L c = true) (h2 : opB op = true) (h3 : atB L op y.entry = true ∧ (y.ways.length = (whoE L y.entry).length ∧ y.proofs.length = (whoE L y.entry).length) ∧ y.ways.all (toB c) = true) : chkE R C L op c y = proofsE R C c (whoE L y.entry) y.ways y.proofs := by
 unfold chkE
 unfold opB at h2
 rw [Bool.and_eq_true, decide_eq_true_iff, decide_eq_true_iff] at h2
 rw [if_pos h, if_pos h2, if_pos h3]
theorem all_to {c : List ByteArray} {l : List Int} {k : Nat} {t : Int} (h : l[k]? = some t) : (l.take (k + 1)).all (toB c) = ((l.take k).all (toB c) && toB c t) := by
 rw [List.take_add_one, h, List.all_append]; simp
theorem all_not {c : List ByteArray} {l : List Int} {k : Nat} {t : Int} (h : l[k]? = some t) (ht : toB c t = false) : l.all (toB c) = false := by
 rw [Bool.eq_false_iff]
 intro q
 have := List.all_eq_true.1 q t (List.mem_of_getElem? h)
 rw [ht] at this; cases this
set_option maxHeartbeats 8000000 in
set_option maxRecDepth 100000 in
theorem vcheck_any (w : World) (ra : Option Addr) (R : List BRul) (rc : Nat) (v lv cv tv pv : Value) (P : List (BCert × Value)) (L : List BEnt) (op : Int) (c : List ByteArray) (y : BWhy) (G2 G3 : Nat → Prop) (hR : ChkIn17 w ra R rc v P) (hl : EntsAt w lv G2 L) (hL : L.length ≤ 1000) (hc : WordsAt w cv G3 c) (hy : WhyAt w tv pv (· < w.heap.size) y) (hf : WhyFit y) :
  Calls Tryz.prog 18 #[.slice ra R.length rc, v, lv, .int .i64 op, cv, .agg #[.int .i64 y.entry, tv, pv]] w fun e w' => e = .returned (.int .i64 (chkE R (certsOf P) L op c y)) ∧ Chg (fun _ => False) w w' := by
 have kb := chg_alloc (fun _ => False) w (.cells #[.int .i64 y.entry, tv, pv] 39)
 have OB := Lib.hid (obj_alloc_new w (.cells #[.int .i64 y.entry, tv, pv] 39))
 have LI := Lib.hid (list_any _ v lv cv P L c _ G2 G3 (hR.certs.chg kb (fun _ _ e => e)) (hl.chg kb (fun _ _ e => e)) (hc.chg kb (fun _ _ e => e)) hL)
 have KB := Lib.hid kb
 have HR := Lib.hid hR
 have HL := Lib.hid hl
 have HC := Lib.hid hc
 have HY := Lib.hid hy
 have HF := Lib.hid hf
 obtain ⟨_, _, rfl, _, hlm⟩ := hl.shape
 obtain ⟨la, lcap, rfl, hpl, _⟩ := hR.certs
 obtain ⟨_, _, rfl, hcl, _⟩ := id hc
 obtain ⟨ta, tc, rfl, htl, _⟩ := hy.ways
 obtain ⟨qa, qc, rfl, hql, _⟩ := hy.proofs
 have F1 := Lib.hid (@chkE_form R (certsOf P) L op c y)
 have F2 := Lib.hid (@chkE_op R (certsOf P) L op c y)
 have F3 := Lib.hid (@chkE_none R (certsOf P) L op c y)
 have F4 := Lib.hid (@chkE_go R (certsOf P) L op c y)
 have TB := Lib.hid (fun k t (h : y.ways[k]? = some t) => @all_to c y.ways k t h)
 have TN := Lib.hid (fun k t (h : y.ways[k]? = some t) => @all_not c y.ways k t h)
 have PS := Lib.hid (fun W k x t p => @proofsE_step R (certsOf P) c W y.ways y.proofs k x t p)
 unfold maxLen at htl hql hcl
 generalize hres : chkE R (certsOf P) L op c y = res at *
 clear hR hl hc hy hf kb hres
 go_enter Tryz.func18, Tryz.ntmps18
 go_wp2_with fail
 generalize w.alloc (.cells #[.int .i64 y.entry, .slice ta y.ways.length tc, .slice qa y.proofs.length qc] 39) = w1 at *
 obtain ⟨b0, hb0⟩ : ∃ b0, b0 = w.heap.size := ⟨_, rfl⟩
 rw [← hb0] at OB
 rw [← hb0]
 clear hb0
 (with_reducible refine (LI.out).mono ?_)
 rintro e w2 ⟨k2, hgood, hbad⟩
 have K2 := Lib.hid (KB.out.trans k2)
 have O2 := Lib.hid (k2.obj (fun e => e) OB.out)
 clear LI OB k2
 cases hlb : listB (certsOf P) L c with
 | false =>
  as_aux_lemma =>
  obtain rfl := hbad hlb
  have RD := Lib.hid (F1.out hlb)
  clear hbad hgood hlb
  go_wp2
  go_ret
  exact ⟨by rw [RD.out]; rfl, K2.out⟩
 | true =>
 obtain ⟨bl, rfl, _, _⟩ := hgood hlb
 have LB := Lib.hid hlb
 have OP := Lib.hid (op_any w2 op)
 clear hbad hgood hlb
 cases hop : opB op with
 | false =>
  as_aux_lemma =>
  have RD := Lib.hid (F2.out LB.out hop)
  rw [hop] at OP
  clear hop
  go_wp2_with fail
  (with_reducible refine (OP.out).mono ?_)
  rintro e w3 ⟨rfl, rfl⟩
  go_wp2
  go_ret
  exact ⟨by rw [RD.out]; rfl, K2.out⟩
 | true =>
 rw [hop] at OP
 have HOP := Lib.hid hop
 clear hop
 go_wp2_with fail
 (with_reducible refine (OP.out).mono ?_)
 rintro e w3 ⟨rfl, rfl⟩
 have d0 := cell_of (o := 0) O2.out rfl
 have N3 := Lib.hid (fun h => F3.out LB.out HOP.out h)
 have N4 := Lib.hid (fun h => F4.out LB.out HOP.out h)
 have AB := Lib.hid (@atB_iff L op y.entry)
 clear OP F1 F2 F3 F4
 have HYE := Lib.hid (show ∃ en, en = y.entry from ⟨_, rfl⟩)
 by_cases h0 : y.entry < 0
 · as_aux_lemma =>
   have g0 : decide (y.entry < 0) = true := decide_eq_true h0
   have RD := Lib.hid (N3.out (fun h => by have := (AB.out.1 h.1).1; omega))
   clear h0
   go_wp2
   go_ret
   exact ⟨by rw [RD.out]; rfl, K2.out⟩
 have g0 : decide (y.entry < 0) = false := decide_eq_false h0
 by_cases h1 : (L.length : Int) ≤ y.entry
 · as_aux_lemma =>
   have g1 : decide ((L.length : Int) ≤ y.entry) = true := decide_eq_true h1
   have RD := Lib.hid (N3.out (fun h => by
    obtain ⟨_, x, q, _⟩ := AB.out.1 h.1
    have := (List.getElem?_eq_some_iff.1 q).1
    omega))
   clear h0 h1
   go_wp2
   go_ret
   exact ⟨by rw [RD.out]; rfl, K2.out⟩
 have g1 : decide ((L.length : Int) ≤ y.entry) = false := decide_eq_false h1
 obtain ⟨i, hi⟩ : ∃ i : Nat, y.entry = i := ⟨y.entry.toNat, by omega⟩
 obtain ⟨x, hx⟩ : ∃ x, L[i]? = some x := ⟨_, List.getElem?_eq_getElem (by omega)⟩
 have HI := Lib.hid hi
 have WE := Lib.hid (show whoE L y.entry = x.2 from whoE_at (by rw [hi]; exact hx))
 have HXX := Lib.hid hx
 obtain ⟨g, o, sa, sc, hla, _, x0', x1', hs⟩ := HL.out.get hx
 cases hla
 have HS := Lib.hid hs
 have x0 := cell_chg K2.out (fun e => e) x0'
 have x1 := cell_chg K2.out (fun e => e) x1'
 have XSL := Lib.hid (setB_len (new_may (listB_iff.1 LB.out).2.1 x (List.mem_of_getElem? hx)))
 have hil : (i : Int) < (L.length : Int) := by omega
 have ATB := Lib.hid (show atB L op y.entry = true ↔ x.1 = op from ⟨fun h => by
  obtain ⟨_, z, q1, q2⟩ := AB.out.1 h
  have e : y.entry.toNat = i := by rw [HI.out]; simp
  rw [e, hx] at q1; cases q1; exact q2, fun h => AB.out.2 ⟨by omega, x, by rw [HI.out]; simpa using hx, h⟩⟩)
 rw [WE.out] at N3 N4
 rw [hi] at d0 g0 g1
 have hgi : (0 : Int) ≤ (i : Int) := by omega
 clear hi hx hs x0' x1' h0 h1 AB HYE
 obtain ⟨xo, xw⟩ := x
 simp only at x0 x1 ATB N3 N4 XSL
 by_cases hxo : xo = op
 rotate_left
 · as_aux_lemma =>
   have g2 : (xo != op) = true := by rw [bne_iff_ne]; exact hxo
   have RD := Lib.hid (N3.out (fun h => hxo (ATB.out.1 h.1)))
   clear hxo
   go_wp2
   go_ret
   exact ⟨by rw [RD.out]; rfl, K2.out⟩
 have g2 : (xo != op) = false := by rw [bne_eq_false_iff_eq]; exact hxo
 have AT := Lib.hid (ATB.out.2 hxo)
 have d1 := cell_of (o := 1) O2.out rfl
 have d2 := cell_of (o := 2) O2.out rfl
 have xwl := XSL.out.2
 clear hxo ATB
 by_cases hwl : y.ways.length = xw.length
 rotate_left
 · as_aux_lemma =>
   have g3 : ((y.ways.length : Int) != (xw.length : Int)) = true := by rw [bne_iff_ne]; omega
   have RD := Lib.hid (N3.out (fun h => hwl h.2.1.1))
   clear hwl
   go_wp2
   go_ret
   exact ⟨by rw [RD.out]; rfl, K2.out⟩
 have g3 : ((y.ways.length : Int) != (xw.length : Int)) = false := by rw [bne_eq_false_iff_eq]; omega
 by_cases hpl2 : y.proofs.length = xw.length
 rotate_left
 · as_aux_lemma =>
   have g4 : ((y.proofs.length : Int) != (xw.length : Int)) = true := by rw [bne_iff_ne]; omega
   have RD := Lib.hid (N3.out (fun h => hpl2 h.2.1.2))
   clear hwl hpl2
   go_wp2
   go_ret
   exact ⟨by rw [RD.out]; rfl, K2.out⟩
 have g4 : ((y.proofs.length : Int) != (xw.length : Int)) = false := by rw [bne_eq_false_iff_eq]; omega
 have WL := Lib.hid hwl
 have PL := Lib.hid hpl2
 have hyw : y.ways.length ≤ 16 := by omega
 have hyp : y.proofs.length ≤ 16 := by omega
 clear hwl hpl2
 go_wp2
 clear g3 g4
 go_loopw [77] (fun iv wr => ∃ k : Nat, k ≤ y.ways.length ∧ iv = .int .i64 k ∧ Hid ((y.ways.take k).all (toB c) = true) ∧ Hid (w2 = wr)) (fun iv _ => y.ways.length - (intOf iv).toNat)
 case atStart => exact ⟨0, by omega, rfl, Lib.hid (by simp), Lib.hid rfl⟩
 case round =>
  obtain ⟨k, hk, rfl, HA, hw⟩ := hrel
  have hw := hw.out
  subst hw
  by_cases hlt : k < y.ways.length
  · as_aux_lemma =>
    obtain ⟨t, ht⟩ : ∃ t, y.ways[k]? = some t := ⟨_, List.getElem?_eq_getElem hlt⟩
    obtain ⟨_, _, e1, _, hts⟩ := HY.out.ways.chg K2.out (fun _ _ e => e)
    cases e1
    obtain ⟨tg, tf, rfl, _, t0⟩ := hts k t ht
    have NX := Lib.hid (TB.out k t ht)
    have ND := Lib.hid (TN.out k t ht)
    have TD := Lib.hid (show toB c t = (decide (0 ≤ t) && decide (t < c.length)) from rfl)
    clear hts ht
    by_cases h0 : t < 0
    · have m0 : decide (t < 0) = true := decide_eq_true h0
      have RD := Lib.hid (N3.out (fun h => by rw [ND.out (by rw [TD.out, decide_eq_false (by omega)]; rfl)] at h; cases h.2.2))
      clear h0
      go_wp2
      go_ret
      exact ⟨by rw [RD.out]; rfl, K2.out⟩
    have m0 : decide (t < 0) = false := decide_eq_false h0
    by_cases h1 : (c.length : Int) ≤ t
    · have m1 : decide ((c.length : Int) ≤ t) = true := decide_eq_true h1
      have RD := Lib.hid (N3.out (fun h => by rw [ND.out (by rw [TD.out, decide_eq_false (show ¬ t < (c.length : Int) from by omega), Bool.and_false])] at h; cases h.2.2))
      clear h0 h1
      go_wp2
      go_ret
      exact ⟨by rw [RD.out]; rfl, K2.out⟩
    have m1 : decide ((c.length : Int) ≤ t) = false := decide_eq_false h1
    have HA2 := Lib.hid (show (y.ways.take (k + 1)).all (toB c) = true from by rw [NX.out, HA.out, TD.out, decide_eq_true (by omega), decide_eq_true (by omega)]; rfl)
    clear h0 h1
    go_wp2
    go_roundw
    case rel => exact ⟨k + 1, by omega, by go_num, HA2, Lib.hid (by first | trivial | rfl)⟩
    case measure => simp [intOf]; omega
  obtain rfl : k = y.ways.length := by omega
  have ALL := Lib.hid (show y.ways.all (toB c) = true from by have := HA.out; rwa [List.take_length] at this)
  have RG := Lib.hid (show res = proofsE R (certsOf P) c (xw.drop 0) (y.ways.drop 0) (y.proofs.drop 0) from N4.out ⟨AT.out, ⟨WL.out, PL.out⟩, ALL.out⟩)
  clear N3 N4 HA hlt hk
  go_wp2
  go_loopw [92] (fun iv wr => ∃ k : Nat, k ≤ xw.length ∧ iv = .int .i64 k ∧ Hid (res = proofsE R (certsOf P) c (xw.drop k) (y.ways.drop k) (y.proofs.drop k) ∧ Chg (fun _ => False) w2 wr)) (fun iv _ => xw.length - (intOf iv).toNat)
  case atStart => exact ⟨0, by omega, rfl, Lib.hid ⟨RG.out, Chg.refl _ _⟩⟩
  case round =>
   obtain ⟨k, hk, rfl, HI2⟩ := hrel
   by_cases hlt : k < xw.length
   · as_aux_lemma =>
     have KW := Lib.hid (K2.out.trans HI2.out.2)
     obtain ⟨z, hz⟩ : ∃ z, xw[k]? = some z := ⟨_, List.getElem?_eq_getElem hlt⟩
     obtain ⟨t, ht⟩ : ∃ t, y.ways[k]? = some t := ⟨_, List.getElem?_eq_getElem (by have := WL.out; omega)⟩
     obtain ⟨p, hp⟩ : ∃ p, y.proofs[k]? = some p := ⟨_, List.getElem?_eq_getElem (by have := PL.out; omega)⟩
     have htb := List.all_eq_true.1 ALL.out t (List.mem_of_getElem? ht)
     unfold toB at htb
     rw [Bool.and_eq_true, decide_eq_true_iff, decide_eq_true_iff] at htb
     obtain ⟨n, rfl⟩ : ∃ n : Nat, t = n := ⟨t.toNat, by omega⟩
     obtain ⟨u, hu⟩ : ∃ u, c[n]? = some u := ⟨_, List.getElem?_eq_getElem (by omega)⟩
     have ST := Lib.hid (show res = if check13 R (certsOf P) p z u = 0 then proofsE R (certsOf P) c (xw.drop (k + 1)) (y.ways.drop (k + 1)) (y.proofs.drop (k + 1)) else check13 R (certsOf P) p z u from by
      have := PS.out xw k z n p hz ht hp
      rw [Int.toNat_natCast, List.getD_eq_getElem?_getD, hu, Option.getD_some] at this
      rw [HI2.out.1, this])
     obtain ⟨_, _, e1, _, hws⟩ := (HS.out.chg KW.out (fun _ _ e => e)).at_
     cases e1
     obtain ⟨zg, zo, rfl, _, z0, hzs⟩ := hws k z hz
     obtain ⟨_, _, e1, _, hts⟩ := HY.out.ways.chg KW.out (fun _ _ e => e)
     cases e1
     obtain ⟨tg, tf, rfl, _, t0⟩ := hts k _ ht
     obtain ⟨_, _, e1, _, hus⟩ := HC.out.chg KW.out (fun _ _ e => e)
     cases e1
     obtain ⟨ug, uo, rfl, _, u0, _⟩ := hus n u hu
     obtain ⟨_, _, e1, _, hps⟩ := HY.out.proofs.chg KW.out (fun _ _ e => e)
     cases e1
     obtain ⟨pg, po, iv, sv, rfl, _, p0, p1, hpp⟩ := hps k p hp
     have HPP := Lib.hid (hpp.up (fun j hj => Nat.lt_of_lt_of_le hj KW.out.size))
     have HRW := Lib.hid (HR.out.chg KW.out)
     have OW := Lib.hid (HI2.out.2.obj (fun e => e) O2.out)
     have CKX := Lib.hid (fun (W : World) (kk : Chg (fun _ => False) wr W) => check_any13 W ra R rc _ iv sv P p z u (HRW.out.chg kk).rules (HRW.out.nil) HRW.out.many (HRW.out.chg kk).certs HRW.out.few (HPP.out.chg kk (fun _ _ e => e) |>.up (fun j hj => Nat.lt_of_lt_of_le hj kk.size)) (HF.out.proof p (List.mem_of_getElem? hp)) hzs)
     obtain ⟨i1, i2, rfl⟩ := HPP.out.items.shape
     obtain ⟨s1, s2, rfl⟩ := HPP.out.steps.shape
     have hn2 : (n : Int) < (c.length : Int) := htb.2
     have e1 := cell_of (o := 1) OW.out rfl
     have e2 := cell_of (o := 2) OW.out rfl
     have hkw : k < y.ways.length := (List.getElem?_eq_some_iff.1 ht).1
     have hkp : k < y.proofs.length := (List.getElem?_eq_some_iff.1 hp).1
     clear hws hts hus hps hz ht hp hu hpp hzs htb d0 d1 d2 x0 x1 PS
     generalize check13 R (certsOf P) p z u = ck at *
     go_wp2_with fail
     refine wp_region_plan (N := 118) [.rd [0, 1, 2, 3, 4, 5, 6, 7, 8, 9, 10, 11, 12, 13, 14, 15], .ef 16, .rd [17]] (fun W => W.cell? ⟨b0, 1, none⟩ = some (.slice (some ⟨tg, tf, none⟩) y.ways.length tc) ∧ W.cell? ⟨b0, 2, none⟩ = some (.slice (some ⟨pg, po, none⟩) y.proofs.length qc) ∧ W.cell? ⟨tg, tf + k, none⟩ = some (.int .i64 (n : Int)) ∧ W.cell? ⟨ug, uo + n, none⟩ = some (.string u) ∧ W.cell? ⟨pg, po + k * 2, none⟩ = some (.slice i1 p.items.length i2) ∧ W.cell? ⟨pg, po + k * 2 + 1, none⟩ = some (.slice s1 p.steps.length s2)) (by kernel_rfl) (by kernel_rfl) (by kernel_rfl) (by kernel_rfl) (Nat.le_of_ble_eq_true rfl) ⟨e1, e2, t0, u0, p0, p1⟩ ?_
     refine plan_rd (A := ?A1) ?h1 ?h2
     case h1 =>
      rintro w' ⟨y0, y1, y2, y3, y4, y5⟩ K hK
      simp only [opsAt, List.filterMap_cons, List.filterMap_nil, List.getElem?_toArray, List.getElem?_cons_succ, List.getElem?_cons_zero]
      repeat still_step
      refine wpStill_nil ?_
      exact hK
     have kd := chg_drew (fun _ => False) wr
     have CKD := Lib.hid (CKX.out _ kd)
     have KD := Lib.hid (HI2.out.2.trans kd)
     have PR := Lib.hid (fun (W : World) (kk : Chg (fun _ => False) wr W) => (show W.cell? ⟨b0, 1, none⟩ = some (.slice (some ⟨tg, tf, none⟩) y.ways.length tc) ∧ W.cell? ⟨b0, 2, none⟩ = some (.slice (some ⟨pg, po, none⟩) y.proofs.length qc) ∧ W.cell? ⟨tg, tf + k, none⟩ = some (.int .i64 (n : Int)) ∧ W.cell? ⟨ug, uo + n, none⟩ = some (.string u) ∧ W.cell? ⟨pg, po + k * 2, none⟩ = some (.slice i1 p.items.length i2) ∧ W.cell? ⟨pg, po + k * 2 + 1, none⟩ = some (.slice s1 p.steps.length s2) from ⟨cell_chg kk (fun e => e) e1, cell_chg kk (fun e => e) e2, cell_chg kk (fun e => e) t0, cell_chg kk (fun e => e) u0, cell_chg kk (fun e => e) p0, cell_chg kk (fun e => e) p1⟩))
     have KDR := Lib.hid kd
     clear kd CKX e1 e2 t0 u0 p0 p1 z0 HI2
     generalize wr.drew = wd at *
     refine plan_ef rfl ?_
     go_wp2_with fail
     (with_reducible refine (CKD.out).mono ?_)
     rintro e w7 ⟨rfl, k7⟩
     have K7 := Lib.hid (KD.out.trans k7)
     have P7 := Lib.hid (PR.out w7 (KDR.out.trans k7))
     clear CKD k7 KD PR KDR
     go_wp2_with fail
     refine ⟨P7.out, ?_⟩
     refine plan_rd (A := ?A2) ?h3 ?h4
     case h3 =>
      intro w' hS K hK
      clear hS
      simp only [opsAt, List.filterMap_cons, List.filterMap_nil, List.getElem?_toArray, List.getElem?_cons_succ, List.getElem?_cons_zero]
      repeat still_step
      refine wpStill_nil ?_
      exact hK
     refine plan_nil ?_
     by_cases hck : ck = 0
     · have RN := Lib.hid (show res = proofsE R (certsOf P) c (xw.drop (k + 1)) (y.ways.drop (k + 1)) (y.proofs.drop (k + 1)) from by rw [ST.out, if_pos hck])
       subst hck
       clear ST
       go_wp2
       go_roundw
       case rel => exact ⟨k + 1, by omega, by go_num, Lib.hid ⟨RN.out, K7.out⟩⟩
       case measure => simp [intOf]; omega
     · have RN := Lib.hid (show res = ck from by rw [ST.out, if_neg hck])
       have g5 : (ck != 0) = true := by rw [bne_iff_ne]; exact hck
       clear ST hck
       go_wp2
       go_ret
       exact ⟨by rw [RN.out]; rfl, K2.out.trans K7.out⟩
   · as_aux_lemma =>
     obtain rfl : k = xw.length := by omega
     have RN := Lib.hid (show res = 0 from by rw [HI2.out.1, List.drop_length]; unfold proofsE; rfl)
     go_wp2
     go_ret
     exact ⟨by rw [RN.out]; rfl, K2.out.trans HI2.out.2⟩
end Go.Proofs.YthdfplafihmejaaGreat
