/-
  Decide: the reference's Wrong and Check. What the arguments' readings say: one certificate. What the arguments' readings say: certificates. What the arguments' readings say: sets, entries. Append of a slice of another type; lists of the words of rules and certificates.
-/
import Derived.Test.YthdfplafihmejaaGreatZcVCheck
import Derived.Test.YthdfplafihmejaaGreatZcAEntZ
import Derived.Test.YthdfplafihmejaaGreatZcARefN
import Derived.Test.YthdfplafihmejaaGreatZcDCheckZ
import Derived.Test.YthdfplafihmejaaGreatZcCLike
import Derived.Test.YthdfplafihmejaaGreatZcURun
import Derived.Test.YthdfplafihmejaaGreatZcAEnt
namespace Go.Proofs.YthdfplafihmejaaGreat
open Go.RowKit Go.Maps
def zb6 (C : List zn) (L : List zW) (op : Int) (c : List ByteArray) : Int := if Yj C L c = true then (if opB op = true then 0 else 1) else 2
theorem zm5 {op : Int} : opB op = true ↔ 0 <= op ∧ op < 8 := by
 unfold opB;rw [Bool.and_eq_true, decide_eq_true_iff, decide_eq_true_iff]
theorem zdJ {C : List zn} {L : List zW} {op : Int} {c : List ByteArray} (h : Yj C L c = false) : zb6 C L op c = 2 := if_neg (by rw [h]; decide)
theorem zna {C : List zn} {L : List zW} {c : List ByteArray} (h : ¬ (XR c = true ∧ zc1 [] L = 0 ∧ C.all ZG = true)) : Yj C L c = false := by
 rw [Bool.eq_false_iff];exact fun q => h (yO.1 q)
set_option maxHeartbeats 8000000 in
set_option maxRecDepth 100000 in
theorem ziq (w : World) (v lv cv : Value) (P : List (zn × Value)) (L : List zW) (op : Int) (c : List ByteArray) (G G2 G3 : Nat -> Prop) (hv : yb w v G P) (hl : Zu w lv G2 L) (hL : L.length <= 1000) (hc : zu w cv G3 c) (hz : ∀ x ∈ L, zco x.2) (hcz : zco c) (hcs : ∀ k ∈ zj P, k.sp.size <= 140737488355328 ∧ zco k.fr) :
  Calls Tryz.prog 33 #[v, lv, .int .i64 op, cv] w fun e w' => e = .returned (.int .i64 (zb6 (zj P) L op c)) ∧ Chg (fun _ => False) w w' := by
 have NW := zb (zlx w lv L G2 hl hL hz);have MY := zb (fun W (k : Chg (fun _ => False) w W) => zaV W cv G3 c (hc.chg k (fun _ _ e => e)) hcz);have HV := zb hv;have HCS := zb hcs;have F1 := zb (@zdJ (zj P) L op c);have LN := zb (@zna (zj P) L c);have LY := zb (@yO (zj P) L c);have WE := zb (show zb6 (zj P) L op c = if Yj (zj P) L c = true then (if opB op = true then 0 else 1) else 2 from rfl);have OPI := zb (@zm5 op);obtain ⟨la, lcap, rfl, hpl, _⟩ := hv;obtain ⟨_, _, rfl, _, _⟩ := hl.shape;obtain ⟨_, _, rfl, _, _⟩ := hc;unfold maxLen at hpl;generalize zb6 (zj P) L op c = res at *;clear hl hz hcz hcs;go_enter Tryz.func33, Tryz.ntmps33;go_wp2_with fail;(with_reducible refine NW.out.mono ?_);rintro e w2 ⟨hgood, hbad, k2⟩;have K2 := zb k2;clear k2 NW;by_cases hn : zc1 [] L = 0
 rotate_left
 · as_aux_lemma =>
   have RD := zb (F1.out (LN.out (fun q => hn q.2.1)));obtain rfl := hbad hn;have g1 : (zc1 [] L != 0) = true := bne_iff_ne.2 hn;clear hgood hbad hn;generalize zc1 [] L = ne at *;go_wp2;go_ret;exact ⟨by rw [RD.out]; rfl, K2.out⟩
 obtain ⟨bl, rfl, _, _⟩ := hgood hn;have HN := zb hn;have M2 := zb (MY.out w2 K2.out);clear hgood hbad hn MY;go_wp2_with fail;(with_reducible refine M2.out.mono ?_);rintro e w3 ⟨rfl, k3⟩;have K3 := zb (K2.out.trans k3);clear M2 k3 K2;cases hsb : XR c with
 | false =>
  as_aux_lemma =>
  have RD := zb (F1.out (LN.out (fun q => by rw [hsb] at q; cases q.1)));clear hsb;go_wp2;go_ret;exact ⟨by rw [RD.out]; rfl, K3.out⟩
 | true =>
 have HSB := zb hsb;clear hsb;go_wp2_with fail;go_loopw [11] (fun iv wr => ∃ k : Nat, k <= P.length ∧ iv = .int .i64 k ∧ Hid (((zj P).take k).all ZG = true ∧ Chg (fun _ => False) w wr)) (fun iv _ => P.length - (intOf iv).toNat)
 case atStart => exact ⟨0, by omega, rfl, zb ⟨by simp, K3.out⟩⟩
 case round =>
 obtain ⟨k, hk, rfl, HI⟩ := hrel;by_cases hlt : k < P.length
 · as_aux_lemma =>
   obtain ⟨⟨cc, sv⟩, hx⟩ : ∃ x, P[k]? = some x := ⟨_, List.getElem?_eq_getElem hlt⟩;have GX := zb (Zq hx);obtain ⟨_, _, e1, _, hcl⟩ := HV.out.chg HI.out.2 (fun _ _ e => e);cases e1;obtain ⟨g, o, sa, sc, rfl, _, e2, q0, q1, q2, q3, q4, q5, q6, hca⟩ := hcl k (cc, sv) hx;simp only at q0 q1 q2 q3 q4 q5 q6 hca;obtain ⟨z1, z2⟩ := HCS.out cc (List.mem_of_getElem? GX.out);have CK := zdT wr cc sa sc G hca z1 z2;unfold xf at CK;have CK := zb CK;have AS := zb (show ((zj P).take (k + 1)).all ZG = (((zj P).take k).all ZG && ZG cc) from zh4 GX.out);have AB := zb (fun h => zkW (x := cc) GX.out h);have HA := zb HI.out.1;have KW := zb HI.out.2;clear HI hcl hx hca e2 GX z1 z2;go_wp2_with fail;clear q0 q1 q2 q3 q4 q5 q6;(with_reducible refine CK.out.mono ?_);rintro e w5 ⟨⟨kk, rfl, hkk⟩, k5⟩;have K5 := zb (KW.out.trans k5);clear CK k5;by_cases h0 : kk = 0
   · have N2 := zb (show ((zj P).take (k + 1)).all ZG = true from by rw [AS.out, HA.out, hkk.1 h0]; rfl)
     subst h0;clear hkk AB AS;go_wp2;go_roundw
     case rel => exact ⟨k + 1, by omega, by go_num, zb ⟨N2.out, K5.out⟩⟩
     case measure => simp [intOf]; omega
   · have g0 : (kk != 0) = true := bne_iff_ne.2 h0
     have RD := zb (F1.out (LN.out (fun q => by
      have hc0 : ZG cc = false := by
       rw [Bool.eq_false_iff];exact fun z => h0 (hkk.2 z)
      rw [AB.out hc0] at q;cases q.2.2)))
     clear hkk h0 AB AS;go_wp2;go_ret;exact ⟨by rw [RD.out]; rfl, K5.out⟩
 obtain rfl : k = P.length := by omega
 have LT := zb (show Yj (zj P) L c = true from LY.out.2 ⟨HSB.out, HN.out, by have := HI.out.1; rwa [<- zO P, List.take_length] at this⟩);have KW := zb HI.out.2;rw [LT.out, if_pos rfl] at WE;clear HI LN LY F1 HN HSB hlt hk;by_cases h0 : op < 0
 · have g0 : decide (op < 0) = true := decide_eq_true h0
   have RD := zb (show res = 1 from by rw [WE.out, if_neg (fun q => by have := OPI.out.1 q; omega)]);clear h0 OPI WE;go_wp2;go_ret;exact ⟨by rw [RD.out]; rfl, KW.out⟩
 have g0 : decide (op < 0) = false := decide_eq_false h0;by_cases h7 : 7 < op
 · have g7 : decide (7 < op) = true := decide_eq_true h7
   have RD := zb (show res = 1 from by rw [WE.out, if_neg (fun q => by have := OPI.out.1 q; omega)]);clear h0 h7 OPI WE;go_wp2;go_ret;exact ⟨by rw [RD.out]; rfl, KW.out⟩
 have g7 : decide (7 < op) = false := decide_eq_false h7;have RD := zb (show res = 0 from by rw [WE.out, if_pos (OPI.out.2 (by omega))]);clear h0 h7 OPI WE;go_wp2;go_ret;exact ⟨by rw [RD.out]; rfl, KW.out⟩
structure zn3 (R : List zA) (P : List (zn × Value)) (L : List zW) (c : List ByteArray) (y : zdq) : Prop where
 fit : zf9 R
 cert : ∀ k ∈ zj P, k.sp.size <= 140737488355328 ∧ zco k.fr
 who : ∀ x ∈ L, zco x.2
 set : zco c
 proof : ∀ p ∈ y.proofs, YI p
set_option maxHeartbeats 8000000 in
set_option maxRecDepth 100000 in
theorem zfj (w : World) (ra : Option Addr) (R : List zA) (rc : Nat) (v lv cv tv pv : Value) (P : List (zn × Value)) (L : List zW) (op : Int) (c : List ByteArray) (y : zdq) (G2 G3 : Nat -> Prop) (hR : zb5 w ra R rc v P) (hl : Zu w lv G2 L) (hL : L.length <= 1000) (hc : zu w cv G3 c) (hy : zbC w tv pv (· < w.heap.size) y) (hf : zkZ y) (hi : zn3 R P L c y) :
  Calls Tryz.prog 19 #[.slice ra R.length rc, v, lv, .int .i64 op, cv, .agg #[.int .i64 y.entry, tv, pv]] w fun e w' => e = .returned (.int .i64 (zeU R (zj P) L op c y)) ∧ Chg (fun _ => False) w w' := by
 have kb := zh (fun _ => False) w (.cells #[.int .i64 y.entry, tv, pv] 42);have OB := zb (zf w (.cells #[.int .i64 y.entry, tv, pv] 42));have LI := zb (ziq _ v lv cv P L op c _ G2 G3 (hR.certs.chg kb (fun _ _ e => e)) (hl.chg kb (fun _ _ e => e)) hL (hc.chg kb (fun _ _ e => e)) hi.who hi.set hi.cert);have KB := zb kb;have HR := zb hR;have HL := zb hl;have HC := zb hc;have HY := zb hy;have HF := zb hf;have HIN := zb hi;obtain ⟨_, _, rfl, _, hlm⟩ := hl.shape;obtain ⟨la, lcap, rfl, hpl, _⟩ := hR.certs;obtain ⟨_, _, rfl, hcl, _⟩ := id hc;obtain ⟨ta, tc, rfl, htl, _⟩ := hy.ways;obtain ⟨qa, qc, rfl, hql, _⟩ := hy.proofs;have F1 := zb (@zfS R (zj P) L op c y);have F2 := zb (@zkF R (zj P) L op c y);have F3 := zb (@zfR R (zj P) L op c y);have F4 := zb (@zkG R (zj P) L op c y);have TB := zb (fun k t (h : y.ways[k]? = some t) => @zmv c y.ways k t h);have TN := zb (fun k t (h : y.ways[k]? = some t) => @zkV c y.ways k t h);have PS := zb (fun W k x t p => @zca R (zj P) c W y.ways y.proofs k x t p);unfold maxLen at htl hql hcl;generalize hres : zeU R (zj P) L op c y = res at *;clear hR hl hc hy hf kb hres hi;go_enter Tryz.func19, Tryz.ntmps19;go_wp2_with fail;generalize w.alloc (.cells #[.int .i64 y.entry, .slice ta y.ways.length tc, .slice qa y.proofs.length qc] 42) = w1 at *;obtain ⟨b0, hb0⟩ : ∃ b0, b0 = w.heap.size := ⟨_, rfl⟩;rw [<- hb0] at OB;rw [<- hb0];clear hb0;(with_reducible refine LI.out.mono ?_);rintro e w2 ⟨rfl, k2⟩;have K2 := zb (KB.out.trans k2);have O2 := zb (k2.obj (fun e => e) OB.out);clear LI OB k2;cases hlb : Yj (zj P) L c with
 | false =>
  as_aux_lemma =>
  have RD := zb (F1.out hlb);rw [zdJ hlb];clear hlb;go_wp2;go_ret;exact ⟨by rw [RD.out]; rfl, K2.out⟩
 | true =>
 have LB := zb hlb;cases hop : opB op with
 | false =>
  as_aux_lemma =>
  have RD := zb (F2.out LB.out hop);rw [show zb6 (zj P) L op c = 1 from by unfold zb6; rw [if_pos hlb, if_neg (by rw [hop]; decide)]];clear hop hlb;go_wp2;go_ret;exact ⟨by rw [RD.out]; rfl, K2.out⟩
 | true =>
 have HOP := zb hop;rw [show zb6 (zj P) L op c = 0 from by unfold zb6; rw [if_pos hlb, if_pos hop]];clear hop hlb;have d0 := ze (o := 0) O2.out rfl;have N3 := zb (fun h => F3.out LB.out HOP.out h);have N4 := zb (fun h => F4.out LB.out HOP.out h);have AB := zb (@zkR L op y.entry);clear F1 F2 F3 F4;have HYE := zb (show ∃ en, en = y.entry from ⟨_, rfl⟩);by_cases h0 : y.entry < 0
 · as_aux_lemma =>
   have g0 : decide (y.entry < 0) = true := decide_eq_true h0;have RD := zb (N3.out (fun h => by have := (AB.out.1 h.1).1; omega));clear h0;go_wp2;go_ret;exact ⟨by rw [RD.out]; rfl, K2.out⟩
 have g0 : decide (y.entry < 0) = false := decide_eq_false h0;by_cases h1 : (L.length : Int) <= y.entry
 · as_aux_lemma =>
   have g1 : decide ((L.length : Int) <= y.entry) = true := decide_eq_true h1
   have RD := zb (N3.out (fun h => by
    obtain ⟨_, x, q, _⟩ := AB.out.1 h.1;have := (List.getElem?_eq_some_iff.1 q).1;omega))
   clear h0 h1;go_wp2;go_ret;exact ⟨by rw [RD.out]; rfl, K2.out⟩
 have g1 : decide ((L.length : Int) <= y.entry) = false := decide_eq_false h1;obtain ⟨i, hi⟩ : ∃ i : Nat, y.entry = i := ⟨y.entry.toNat, by omega⟩;obtain ⟨x, hx⟩ : ∃ x, L[i]? = some x := ⟨_, List.getElem?_eq_getElem (by omega)⟩;have HI := zb hi;have WE := zb (show ze4 L y.entry = x.2 from zgo (by rw [hi]; exact hx));have HXX := zb hx;obtain ⟨g, o, sa, sc, hla, _, x0', x1', hs⟩ := HL.out.get hx;cases hla;have HS := zb hs;have WZ := zb (HIN.out.who x (List.mem_of_getElem? hx));have x0 := zi K2.out (fun e => e) x0';have x1 := zi K2.out (fun e => e) x1';have XSL := zb (zar (zex (yO.1 LB.out).2.1 x (List.mem_of_getElem? hx)));have hil : (i : Int) < (L.length : Int) := by omega
 have ATB := zb (show atB L op y.entry = true ↔ x.1 = op from ⟨fun h => by
  obtain ⟨_, z, q1, q2⟩ := AB.out.1 h;have e : y.entry.toNat = i := by rw [HI.out]; simp
  rw [e, hx] at q1; cases q1; exact q2, fun h => AB.out.2 ⟨by omega, x, by rw [HI.out]; simpa using hx, h⟩⟩)
 rw [WE.out] at N3 N4;rw [hi] at d0 g0 g1;have hgi : (0 : Int) <= (i : Int) := by omega
 clear hi hx hs x0' x1' h0 h1 AB HYE;obtain ⟨xo, xw⟩ := x;simp only at WZ x0 x1 ATB N3 N4 XSL;by_cases hxo : xo = op
 rotate_left
 · as_aux_lemma =>
   have g2 : (xo != op) = true := by rw [bne_iff_ne]; exact hxo
   have RD := zb (N3.out (fun h => hxo (ATB.out.1 h.1)));clear hxo;go_wp2;go_ret;exact ⟨by rw [RD.out]; rfl, K2.out⟩
 have g2 : (xo != op) = false := by rw [bne_eq_false_iff_eq]; exact hxo
 have AT := zb (ATB.out.2 hxo);have d1 := ze (o := 1) O2.out rfl;have d2 := ze (o := 2) O2.out rfl;have xwl := XSL.out.2;clear hxo ATB;by_cases hwl : y.ways.length = xw.length
 rotate_left
 · as_aux_lemma =>
   have g3 : ((y.ways.length : Int) != (xw.length : Int)) = true := by rw [bne_iff_ne]; omega
   have RD := zb (N3.out (fun h => hwl h.2.1.1));clear hwl;go_wp2;go_ret;exact ⟨by rw [RD.out]; rfl, K2.out⟩
 have g3 : ((y.ways.length : Int) != (xw.length : Int)) = false := by rw [bne_eq_false_iff_eq]; omega
 by_cases hpl2 : y.proofs.length = xw.length
 rotate_left
 · as_aux_lemma =>
   have g4 : ((y.proofs.length : Int) != (xw.length : Int)) = true := by rw [bne_iff_ne]; omega
   have RD := zb (N3.out (fun h => hpl2 h.2.1.2));clear hwl hpl2;go_wp2;go_ret;exact ⟨by rw [RD.out]; rfl, K2.out⟩
 have g4 : ((y.proofs.length : Int) != (xw.length : Int)) = false := by rw [bne_eq_false_iff_eq]; omega
 have WL := zb hwl;have PL := zb hpl2;have hyw : y.ways.length <= 16 := by omega
 have hyp : y.proofs.length <= 16 := by omega
 clear hwl hpl2;go_wp2;clear g3 g4;go_loopw [15] (fun iv wr => ∃ k : Nat, k <= xw.length ∧ iv = .int .i64 k ∧ Hid ((y.ways.take k).all (toB c) = true) ∧ Hid (w2 = wr)) (fun iv _ => xw.length - (intOf iv).toNat)
 case atStart => exact ⟨0, by omega, rfl, zb (by simp), zb rfl⟩
 case round =>
  obtain ⟨k, hk, rfl, HA, hw⟩ := hrel;have hw := hw.out;subst hw;by_cases hlt : k < xw.length
  · as_aux_lemma =>
    have hkw : k < y.ways.length := by have := WL.out; omega
    obtain ⟨t, ht⟩ : ∃ t, y.ways[k]? = some t := ⟨_, List.getElem?_eq_getElem hkw⟩;obtain ⟨_, _, e1, _, hts⟩ := HY.out.ways.chg K2.out (fun _ _ e => e);cases e1;obtain ⟨tg, tf, rfl, _, t0⟩ := hts k t ht;have NX := zb (TB.out k t ht);have ND := zb (TN.out k t ht);have TD := zb (show toB c t = (decide (0 <= t) && decide (t < c.length)) from rfl);clear hts ht;by_cases h0 : t < 0
    · have m0 : decide (t < 0) = true := decide_eq_true h0
      have RD := zb (N3.out (fun h => by rw [ND.out (by rw [TD.out, decide_eq_false (by omega)]; rfl)] at h; cases h.2.2));clear h0;go_wp2;go_ret;exact ⟨by rw [RD.out]; rfl, K2.out⟩
    have m0 : decide (t < 0) = false := decide_eq_false h0;by_cases h1 : (c.length : Int) <= t
    · have m1 : decide ((c.length : Int) <= t) = true := decide_eq_true h1
      have RD := zb (N3.out (fun h => by rw [ND.out (by rw [TD.out, decide_eq_false (show ¬ t < (c.length : Int) from by omega), Bool.and_false])] at h; cases h.2.2));clear h0 h1;go_wp2;go_ret;exact ⟨by rw [RD.out]; rfl, K2.out⟩
    have m1 : decide ((c.length : Int) <= t) = false := decide_eq_false h1;have HA2 := zb (show (y.ways.take (k + 1)).all (toB c) = true from by rw [NX.out, HA.out, TD.out, decide_eq_true (by omega), decide_eq_true (by omega)]; rfl);clear h0 h1;go_wp2;go_roundw
    case rel => exact ⟨k + 1, by omega, by go_num, HA2, zb (by first | trivial | rfl)⟩
    case measure => simp [intOf]; omega
  obtain rfl : k = xw.length := by omega
  have ALL := zb (show y.ways.all (toB c) = true from by have := HA.out; rwa [<- WL.out, List.take_length] at this);have RG := zb (show res = yJ R (zj P) c (xw.drop 0) (y.ways.drop 0) (y.proofs.drop 0) from N4.out ⟨AT.out, ⟨WL.out, PL.out⟩, ALL.out⟩);clear N3 N4 HA hlt hk;go_wp2;go_loopw [16] (fun iv wr => ∃ k : Nat, k <= xw.length ∧ iv = .int .i64 k ∧ Hid (res = yJ R (zj P) c (xw.drop k) (y.ways.drop k) (y.proofs.drop k) ∧ Chg (fun _ => False) w2 wr)) (fun iv _ => xw.length - (intOf iv).toNat)
  case atStart => exact ⟨0, by omega, rfl, zb ⟨RG.out, Chg.refl _ _⟩⟩
  case round =>
   obtain ⟨k, hk, rfl, HI2⟩ := hrel;by_cases hlt : k < xw.length
   · as_aux_lemma =>
     have KW := zb (K2.out.trans HI2.out.2);obtain ⟨z, hz⟩ : ∃ z, xw[k]? = some z := ⟨_, List.getElem?_eq_getElem hlt⟩;obtain ⟨t, ht⟩ : ∃ t, y.ways[k]? = some t := ⟨_, List.getElem?_eq_getElem (by have := WL.out; omega)⟩;obtain ⟨p, hp⟩ : ∃ p, y.proofs[k]? = some p := ⟨_, List.getElem?_eq_getElem (by have := PL.out; omega)⟩;have htb := List.all_eq_true.1 ALL.out t (List.mem_of_getElem? ht);unfold toB at htb;rw [Bool.and_eq_true, decide_eq_true_iff, decide_eq_true_iff] at htb;obtain ⟨n, rfl⟩ : ∃ n : Nat, t = n := ⟨t.toNat, by omega⟩;obtain ⟨u, hu⟩ : ∃ u, c[n]? = some u := ⟨_, List.getElem?_eq_getElem (by omega)⟩
     have ST := zb (show res = if yM R (zj P) p z u = 0 then yJ R (zj P) c (xw.drop (k + 1)) (y.ways.drop (k + 1)) (y.proofs.drop (k + 1)) else yM R (zj P) p z u from by
      have := PS.out xw k z n p hz ht hp;rw [Int.toNat_natCast, List.getD_eq_getElem?_getD, hu, Option.getD_some] at this;rw [HI2.out.1, this])
     obtain ⟨_, _, e1, _, hws⟩ := (HS.out.chg KW.out (fun _ _ e => e)).at_;cases e1;obtain ⟨zg, zo, rfl, _, z0, hzs⟩ := hws k z hz;obtain ⟨_, _, e1, _, hts⟩ := HY.out.ways.chg KW.out (fun _ _ e => e);cases e1;obtain ⟨tg, tf, rfl, _, t0⟩ := hts k _ ht;obtain ⟨_, _, e1, _, hus⟩ := HC.out.chg KW.out (fun _ _ e => e);cases e1;obtain ⟨ug, uo, rfl, _, u0, _⟩ := hus n u hu;obtain ⟨_, _, e1, _, hps⟩ := HY.out.proofs.chg KW.out (fun _ _ e => e);cases e1;obtain ⟨pg, po, iv, sv, rfl, _, p0, p1, hpp⟩ := hps k p hp;have HPP := zb (hpp.up (fun j hj => Nat.lt_of_lt_of_le hj KW.out.size));have HRW := zb (HR.out.chg KW.out);have OW := zb (HI2.out.2.obj (fun e => e) O2.out);have CKX := zb (fun (W : World) (kk : Chg (fun _ => False) wr W) => zfk W ra R rc _ iv sv P p z u (HRW.out.chg kk).rules (HRW.out.nil) HRW.out.many (HRW.out.chg kk).certs (HPP.out.chg kk (fun _ _ e => e) |>.up (fun j hj => Nat.lt_of_lt_of_le hj kk.size)) (HF.out.proof p (List.mem_of_getElem? hp)) (HIN.out.proof p (List.mem_of_getElem? hp)) HIN.out.fit HIN.out.cert (WZ.out z (List.mem_of_getElem? hz)));obtain ⟨i1, i2, rfl⟩ := HPP.out.items.shape;obtain ⟨s1, s2, rfl⟩ := HPP.out.steps.shape;have hn2 : (n : Int) < (c.length : Int) := htb.2;have e1 := ze (o := 1) OW.out rfl;have e2 := ze (o := 2) OW.out rfl;have hkw : k < y.ways.length := (List.getElem?_eq_some_iff.1 ht).1;have hkp : k < y.proofs.length := (List.getElem?_eq_some_iff.1 hp).1;clear hws hts hus hps hz ht hp hu hpp hzs htb d0 d1 d2 x0 x1 PS;generalize yM R (zj P) p z u = ck at *;go_wp2_with fail;refine zB (N := 117) [.rd [0, 1, 2, 3, 4, 5, 6, 7, 8, 9, 10, 11, 12, 13, 14, 15, 16, 17, 18], .ef 19, .rd [20]] (fun W => W.cell? ⟨zg, zo + k, none⟩ = some (.string z) ∧ W.cell? ⟨b0, 1, none⟩ = some (.slice (some ⟨tg, tf, none⟩) y.ways.length tc) ∧ W.cell? ⟨b0, 2, none⟩ = some (.slice (some ⟨pg, po, none⟩) y.proofs.length qc) ∧ W.cell? ⟨tg, tf + k, none⟩ = some (.int .i64 (n : Int)) ∧ W.cell? ⟨ug, uo + n, none⟩ = some (.string u) ∧ W.cell? ⟨pg, po + k * 2, none⟩ = some (.slice i1 p.items.length i2) ∧ W.cell? ⟨pg, po + k * 2 + 1, none⟩ = some (.slice s1 p.steps.length s2)) (by kernel_rfl) (by kernel_rfl) (by kernel_rfl) (by kernel_rfl) (Nat.le_of_ble_eq_true rfl) ⟨z0, e1, e2, t0, u0, p0, p1⟩ ?_;refine zH (A := ?A1) ?h1 ?h2
     case h1 =>
      rintro w' ⟨y6, y0, y1, y2, y3, y4, y5⟩ K hK;simp only [zT, List.filterMap_cons, List.filterMap_nil, List.getElem?_toArray, List.getElem?_cons_succ, List.getElem?_cons_zero]
      repeat still_step
      refine wpStill_nil ?_;exact hK
     have kd := zK (fun _ => False) wr;have CKD := zb (CKX.out _ kd);have KD := zb (HI2.out.2.trans kd);have PR := zb (fun (W : World) (kk : Chg (fun _ => False) wr W) => (show W.cell? ⟨zg, zo + k, none⟩ = some (.string z) ∧ W.cell? ⟨b0, 1, none⟩ = some (.slice (some ⟨tg, tf, none⟩) y.ways.length tc) ∧ W.cell? ⟨b0, 2, none⟩ = some (.slice (some ⟨pg, po, none⟩) y.proofs.length qc) ∧ W.cell? ⟨tg, tf + k, none⟩ = some (.int .i64 (n : Int)) ∧ W.cell? ⟨ug, uo + n, none⟩ = some (.string u) ∧ W.cell? ⟨pg, po + k * 2, none⟩ = some (.slice i1 p.items.length i2) ∧ W.cell? ⟨pg, po + k * 2 + 1, none⟩ = some (.slice s1 p.steps.length s2) from ⟨zi kk (fun e => e) z0, zi kk (fun e => e) e1, zi kk (fun e => e) e2, zi kk (fun e => e) t0, zi kk (fun e => e) u0, zi kk (fun e => e) p0, zi kk (fun e => e) p1⟩));have KDR := zb kd;clear kd CKX e1 e2 t0 u0 p0 p1 z0 HI2;generalize wr.drew = wd at *;refine zP rfl ?_;go_wp2_with fail;(with_reducible refine CKD.out.mono ?_);rintro e w7 ⟨rfl, k7⟩;have K7 := zb (KD.out.trans k7);have P7 := zb (PR.out w7 (KDR.out.trans k7));clear CKD k7 KD PR KDR;go_wp2_with fail;refine ⟨P7.out, ?_⟩;refine zH (A := ?A2) ?h3 ?h4
     case h3 =>
      intro w' hS K hK;clear hS;simp only [zT, List.filterMap_cons, List.filterMap_nil, List.getElem?_toArray, List.getElem?_cons_succ, List.getElem?_cons_zero]
      repeat still_step
      refine wpStill_nil ?_;exact hK
     refine Zg ?_;by_cases hck : ck = 0
     · have RN := zb (show res = yJ R (zj P) c (xw.drop (k + 1)) (y.ways.drop (k + 1)) (y.proofs.drop (k + 1)) from by rw [ST.out, if_pos hck])
       subst hck;clear ST;go_wp2;go_roundw
       case rel => exact ⟨k + 1, by omega, by go_num, zb ⟨RN.out, K7.out⟩⟩
       case measure => simp [intOf]; omega
     · have RN := zb (show res = ck from by rw [ST.out, if_neg hck])
       have g5 : (ck != 0) = true := by rw [bne_iff_ne]; exact hck
       clear ST hck;go_wp2;go_ret;exact ⟨by rw [RN.out]; rfl, K2.out.trans K7.out⟩
   · as_aux_lemma =>
     obtain rfl : k = xw.length := by omega
     have RN := zb (show res = 0 from by rw [HI2.out.1, List.drop_length]; unfold yJ; rfl);go_wp2;go_ret;exact ⟨by rw [RN.out]; rfl, K2.out.trans HI2.out.2⟩
open Go.ChangeShapes Go.WideShapes Go.ChangeAt
theorem Tryz.cellsCert : Tryz.prog.cellsOf 64 = 7 := by kernel_rfl
section
variable {W : World} {H : Type} {enc : TypeId × Value -> H}
theorem zbN {fuel : Nat} {cs : List Value} {x : DataW H × List MemPlace} (h : DataW.trod enc Tryz.prog W 0 (fun _ => true) true fuel 26 cs = some x) :
  ∃ v l, cs = [v] ∧ Yo W v (· < W.heap.size) l := by
 rcases open_strings Tryz.underlying26 Tryz.underlying57 Tryz.cellsWord h with ⟨hcs, _⟩ | ⟨a, len, cap, ss, hcs, _, hl, hm, hz, _, hcell, hws⟩
 ·exact ⟨_, [], hcs, ⟨none, 0, rfl, by simp, fun j x hj => by simp at hj⟩, fun n c e => by cases e; exact ⟨rfl, rfl⟩⟩
 ·simp at hz
  have hl2 : (ss.take len).length = len := by simp; omega
  refine ⟨_, ss.take len, hcs, ⟨some a, cap, by rw [hl2], by rw [hl2]; omega, fun j s hj => ?_⟩, fun n c e => by cases e⟩
  have hjn : j < len := by
   have := (List.getElem?_eq_some_iff.1 hj).1;omega
  have h1 := hcell j (by omega);have h10 := hcell 0 (by omega);obtain ⟨b, off, spot⟩ := a;have hs : spot = none := by simpa [Addr.add] using World.cell?_spot h10
  subst hs;rw [yn] at h1;refine ⟨b, off, rfl, World.block_lt_of_cell? W _ h1, ?_, hws s (List.mem_of_mem_take (List.mem_of_getElem? hj))⟩;rw [h1];rw [List.getElem?_take, if_pos hjn] at hj;rw [List.getD_eq_getElem?_getD, hj]; rfl
set_option maxRecDepth 100000 in
theorem znl {fuel : Nat} {cs : List Value} {x : DataW H × List MemPlace} (h : DataW.trod enc Tryz.prog W 0 (fun _ => true) true fuel 64 cs = some x) :
  ∃ (c : zn) (sv : Value), cs = [.int .i64 c.kind, .int .u16 (c.sg : Int), .string c.sp, sv, .int .i64 c.f, .int .i64 c.t, .int .i64 c.n] ∧ Yu W sv (· < W.heap.size) c := by
 obtain ⟨xs, n, _, rfl, hl, hlen, hf⟩ := DataW.trod_struct Tryz.underlying64 h;rw [Tryz.cellsCert] at hl
 match cs, hl with
 | [c0, c1, c2, c3, c4, c5, c6], _ =>
  match xs, hlen with
  | [y0, y1, y2, y3, y4, y5, y6], _ =>
  have t0 : DataW.trod enc Tryz.prog W 0 (fun _ => true) true n 3 [c0] = some y0 := hf 0 _ rfl;have t1 : DataW.trod enc Tryz.prog W 0 (fun _ => true) true n 62 [c1] = some y1 := hf 1 _ rfl;have t2 : DataW.trod enc Tryz.prog W 0 (fun _ => true) true n 57 [c2] = some y2 := hf 2 _ rfl;have t3 : DataW.trod enc Tryz.prog W 0 (fun _ => true) true n 26 [c3] = some y3 := hf 3 _ rfl;have t4 : DataW.trod enc Tryz.prog W 0 (fun _ => true) true n 2 [c4] = some y4 := hf 4 _ rfl;have t5 : DataW.trod enc Tryz.prog W 0 (fun _ => true) true n 2 [c5] = some y5 := hf 5 _ rfl;have t6 : DataW.trod enc Tryz.prog W 0 (fun _ => true) true n 2 [c6] = some y6 := hf 6 _ rfl;obtain ⟨k, e0, _, _⟩ := DataW.trod_int Tryz.underlying3 t0;obtain ⟨sg, e1, _, hsg⟩ := DataW.trod_int Tryz.underlying62 t1;obtain ⟨sp, e2, _, hsp⟩ := DataW.trod_string Tryz.underlying57 t2;obtain ⟨sv, l, e3, hs⟩ := zbN t3;obtain ⟨f, e4, _, _⟩ := DataW.trod_int Tryz.underlying2 t4;obtain ⟨u, e5, _, _⟩ := DataW.trod_int Tryz.underlying2 t5;obtain ⟨n, e6, _, _⟩ := DataW.trod_int Tryz.underlying2 t6;simp at e0 e1 e2 e3 e4 e5 e6;subst e0 e1 e2 e3 e4 e5 e6
  have hsg2 : 0 <= sg ∧ sg <= 65535 := by
   simp only [Lit.wf, Bool.and_eq_true, decide_eq_true_eq] at hsg;exact hsg
  refine ⟨⟨k, sg.toNat, sp, l, f, u, n⟩, c3, ?_, ⟨hs, hsp, by simp only; omega⟩⟩;simp only;rw [show ((sg.toNat : Nat) : Int) = sg from by omega]
end
theorem Tryz.bytesCert : Tryz.prog.bytesOf 64 = 80 := by kernel_rfl
def zcB (P : List (zn × Value)) : Prop := P.length * 80 <= 140737488351232
structure zh8 (w : World) (v : Value) (P : List (zn × Value)) : Prop where
 at_ : yb w v (· < w.heap.size) P
 nil : ∀ n c, v = .slice none n c -> n = 0 ∧ c = 0
 fit : ∀ a n c, v = .slice a n c -> n <= c
theorem zhb {W : World} {H : Type} {enc : TypeId × Value -> H} {a : Option Addr} {n c : Nat} {d : DataW H} {ps : List MemPlace}
  (h : DataW.Trod enc Tryz.prog W 0 (fun _ => true) true 23 (.slice a n c) d ps) : ∃ P, zh8 W (.slice a n c) P ∧ ((∀ x ∈ d.weights Tryz.prog 23, x <= reachBytes) -> zcB P) := by
 obtain ⟨fuel, hf⟩ := h;have hf' : DataW.trod enc Tryz.prog W 0 (fun _ => true) true fuel 23 [.slice a n c] = some (d, ps) := hf;rcases Deep.open_slice Tryz.underlying23 hf' with ⟨hcs, _⟩ | ⟨x, len, cap, m, k, D, Pl, hcs, _, hl, hm, hmm, hd, hel⟩
 ·simp at hcs
  obtain ⟨rfl, rfl, rfl⟩ := hcs;exact ⟨[], ⟨⟨none, 0, rfl, by simp, fun j x hj => by simp at hj⟩, (fun n c e => by cases e; exact ⟨rfl, rfl⟩), fun a n c e => by cases e; exact Nat.le_refl _⟩, fun _ => by unfold zcB; simp⟩
 ·simp at hcs
  obtain ⟨rfl, rfl, rfl⟩ := hcs;simp at hmm;obtain rfl : c = m := hmm.symm;rw [Tryz.cellsCert] at hel
  have hv : ∀ i, i < c -> ∃ v : zn × Value, W.cells? 0 (x.add (i * 7)) 7 = some [.int .i64 v.1.kind, .int .u16 (v.1.sg : Int), .string v.1.sp, v.2, .int .i64 v.1.f, .int .i64 v.1.t, .int .i64 v.1.n] ∧ Yu W v.2 (· < W.heap.size) v.1 := by
   intro i hi;obtain ⟨cs, h1, h2⟩ := hel i hi;obtain ⟨v, sv, rfl, q⟩ := znl h2;exact ⟨(v, sv), h1, q⟩
  have : Inhabited (zn × Value) := ⟨(noC, undef)⟩;obtain ⟨f, hf2⟩ := Deep.choose_lt hv
  have key : ∀ (j : Nat) y, ((List.range n).map f)[j]? = some y -> j < n ∧ y = f j := fun j y hj => by
   rw [List.getElem?_map] at hj
   have hjn : j < n := by
    rcases Nat.lt_or_ge j n with h | h
    ·exact h
    ·rw [List.getElem?_eq_none (by simpa using h)] at hj; simp at hj
   rw [List.getElem?_range hjn] at hj;simp at hj;exact ⟨hjn, hj.symm⟩
  refine ⟨(List.range n).map f, ⟨⟨some x, c, by simp, by simp; omega, fun j y hj => ?_⟩, (fun n c e => by cases e), fun a n' c' e => by cases e; omega⟩, fun hw => ?_⟩
  ·obtain ⟨hjn, rfl⟩ := key j y hj
   obtain ⟨h1, h2⟩ := hf2 j (by omega);have g := (World.cells?_some h1).2.2;have g0 := (World.cells?_some (hf2 0 (by omega)).1).2.2 0 (by decide);obtain ⟨b, off, spot⟩ := x;have hs : spot = none := by simpa [Addr.add] using World.cell?_spot g0
   subst hs;simp only [yn] at g;have c0 := g 0 (by decide);have c1 := g 1 (by decide);have c2 := g 2 (by decide);have c3 := g 3 (by decide);have c4 := g 4 (by decide);have c5 := g 5 (by decide);have c6 := g 6 (by decide);obtain ⟨sa, sc, e3⟩ := h2.set.shape;have e4 : W.cell? ⟨b, off + j * 7 + 3, none⟩ = some (f j).2 := c3;rw [e3] at e4 h2;exact ⟨b, off, sa, sc, rfl, World.block_lt_of_cell? W _ c0, e3, c0, c1, c2, e4, c4, c5, c6, h2⟩
  ·have hd2 : d = .slice ((List.range n).map D) ((List.range (c - n)).map fun j => D (n + j)) := congrArg Prod.fst hd
   subst hd2;simp only [DataW.weights, Tryz.underlying23, List.mem_cons, List.mem_append] at hw;have hr : reachBytes = 140737488351232 := rfl;have q1 := hw _ (.inl rfl);rw [Tryz.bytesCert] at q1;unfold zcB;simp only [List.length_map, List.length_range] at q1 ⊢;have : n * 80 <= (n + (c - n)) * 80 := Nat.mul_le_mul_right _ (by omega);omega
theorem Tryz.cellsEntry : Tryz.prog.cellsOf 56 = 2 := by kernel_rfl
theorem Tryz.cellsSet : Tryz.prog.cellsOf 26 = 1 := by kernel_rfl
section
variable {W : World} {H : Type} {enc : TypeId × Value -> H}
theorem zjE {a : Option Addr} {m c : Nat} {d : DataW H} {ps : List MemPlace} (h : DataW.Trod enc Tryz.prog W 0 (fun _ => true) true 26 (.slice a m c) d ps) : ∃ l, Yo W (.slice a m c) (· < W.heap.size) l := by
 obtain ⟨fuel, hf⟩ := h;obtain ⟨u, l, e, hs⟩ := zbN (cs := [.slice a m c]) hf;cases e;exact ⟨l, hs⟩
set_option maxRecDepth 100000 in
theorem zl2 {fuel : Nat} {cs : List Value} {x : DataW H × List MemPlace} (h : DataW.trod enc Tryz.prog W 0 (fun _ => true) true fuel 56 cs = some x) :
  ∃ r : zW × Value, cs = [.int .i64 r.1.1, r.2] ∧ Yo W r.2 (· < W.heap.size) r.1.2 := by
 obtain ⟨y0, y1, n, e, hl, t0, t1⟩ := zbb Tryz.underlying56 h;rw [Tryz.cellsEntry] at hl
 match cs, hl with
 | [c0, c1], _ =>
  simp only [Tryz.cellsInt, Tryz.cellsSet, List.drop_zero, List.drop_succ_cons, List.take_succ_cons, List.take_zero] at t0 t1;obtain ⟨s, e0, f0, hs⟩ := DataW.trod_int Tryz.underlying3 t0;obtain ⟨u, l, e1, hu⟩ := zbN t1;simp at e0 e1;subst e0 e1;exact ⟨((s, l), c1), rfl, hu⟩
theorem zi5 {a : Option Addr} {n c : Nat} {d : DataW H} {ps : List MemPlace}
  (h : DataW.Trod enc Tryz.prog W 0 (fun _ => true) true 24 (.slice a n c) d ps) : ∃ L, Zu W (.slice a n c) (· < W.heap.size) L := by
 obtain ⟨fuel, hf⟩ := h;have hf' : DataW.trod enc Tryz.prog W 0 (fun _ => true) true fuel 24 [.slice a n c] = some (d, ps) := hf;rcases Deep.open_slice Tryz.underlying24 hf' with ⟨hcs, _⟩ | ⟨x, len, cap, m, k, D, Pl, hcs, _, hl, hm, hmm, hd, hel⟩
 ·simp at hcs
  obtain ⟨rfl, rfl, rfl⟩ := hcs;exact ⟨[], zbY _ _⟩
 ·simp at hcs
  obtain ⟨rfl, rfl, rfl⟩ := hcs;simp at hmm;obtain rfl : c = m := hmm.symm;rw [Tryz.cellsEntry] at hel
  have hv : ∀ i, i < c -> ∃ v : zW × Value, W.cells? 0 (x.add (i * 2)) 2 = some [.int .i64 v.1.1, v.2] ∧ Yo W v.2 (· < W.heap.size) v.1.2 := by
   intro i hi;obtain ⟨cs, h1, h2⟩ := hel i hi;obtain ⟨v, rfl, q⟩ := zl2 h2;exact ⟨v, h1, q⟩
  have : Inhabited (zW × Value) := ⟨((0, []), undef)⟩;obtain ⟨f, hf2⟩ := Deep.choose_lt hv
  have key : ∀ {α : Type} (g : Nat -> α) (j : Nat) y, ((List.range n).map g)[j]? = some y -> j < n ∧ y = g j := fun g j y hj => by
   rw [List.getElem?_map] at hj
   have hjn : j < n := by
    rcases Nat.lt_or_ge j n with h | h
    ·exact h
    ·rw [List.getElem?_eq_none (by simpa using h)] at hj; simp at hj
   rw [List.getElem?_range hjn] at hj;simp at hj;exact ⟨hjn, hj.symm⟩
  refine ⟨(List.range n).map fun i => (f i).1, (List.range n).map fun i => ((f i).1.1, (f i).2), some x, c, by simp, by simpa using hl, hm, (fun e => by cases e), ⟨by simp, fun j e y h1 h2 => ?_⟩, fun j u hj => ?_⟩
  ·obtain ⟨h3, rfl⟩ := key _ j e h1
   obtain ⟨_, rfl⟩ := key _ j y h2;exact ⟨rfl, (hf2 j (by omega)).2⟩
  ·obtain ⟨k, r, hk, hq⟩ := zky hj
   obtain ⟨hkn, rfl⟩ := key _ k r hk;obtain ⟨h1, _⟩ := hf2 k (by omega);have g := (World.cells?_some h1).2.2;have g0 := (World.cells?_some (hf2 0 (by omega)).1).2.2 0 (by decide);obtain ⟨b, off, spot⟩ := x;have hs : spot = none := by simpa [Addr.add] using World.cell?_spot g0
   subst hs;simp only [yn] at g;have c0 := g 0 (by decide);have c1 := g 1 (by decide);refine ⟨b, off, rfl, World.block_lt_of_cell? W _ c0, ?_⟩;rcases hq with ⟨rfl, rfl⟩ | ⟨rfl, rfl⟩
   ·exact c0
   ·rw [<- Nat.add_assoc]; exact c1
end
theorem zch {P : Program} {w : World} {t t2 ty e e2 : TypeId} {args : Array Value} (ht : P.underlying t = some (.slice e)) (ht2 : P.underlying t2 = some (.slice e2)) : (Builtin.append_ #[t, t2] ty args).run P w = (Builtin.append_ #[t, t] ty args).run P w := by
 have e0 : (#[t, t2] : Array TypeId)[0]? = some t := rfl;have e1 : (#[t, t2] : Array TypeId)[1]? = some t2 := rfl;have e2 : (#[t, t] : Array TypeId)[0]? = some t := rfl;have e3 : (#[t, t] : Array TypeId)[1]? = some t := rfl;unfold Builtin.append_;simp only [e0, e1, e2, e3];cases h0 : args[0]? with
 | none => rfl
 | some s =>
  cases h1 : args[1]? with
  | none => rfl
  | some x =>
   simp only [Sem.run_bind, run_underlying ht, Result.andThen_ok];cases s with
   | slice a n c =>
    simp only [Sem.run_bind, run_underlying ht, run_underlying ht2, Result.andThen_ok, Sem.run_pure]
   | _ => rfl
theorem XH {P : Program} {w : World} {ops : Array Oper} {rest : List Oper} {o : Oper} {a : Act} {Q : Exit -> Act -> World -> Prop} (hgd : o.guard = none) (s x : Operand) (t t2 : TypeId)
  (ho : o.op = .call { callee := .builtin .append, args := #[s, x], argTypes := #[t, t2] }) (e e2 : TypeId) (size bytes : Nat) (ht : P.underlying t = some (.slice e)) (ht2 : P.underlying t2 = some (.slice e2)) (hE : Zl P e size bytes)
  (base : Nat) (v : Value) (n : Nat) (xs : List Value) (hs : a.eval s = v) (hown : w.ownsRow base e size v n xs)
  (xa : Option Addr) (m c : Nat) (news : List Value) (hx : a.eval x = .slice xa m c) (hl : news.length = m * size) (hc : ∀ (j : Nat) u, news[j]? = some u -> ∃ g o, xa = some ⟨g, o, none⟩ ∧ w.cell? ⟨g, o + j, none⟩ = some u) (hnil : xa = none -> m = 0 ∧ c = 0)
  (h1 : ∀ u ∈ news, u.oneCell' = true) (hbytes : (n + m) * bytes <= 140737488355328) (h63 : n + m <= maxLen) (hbase : base <= w.heap.size)
  (h : ∀ v' w', w'.ownsRow base e size v' (n + m) (xs ++ news) -> w.grownBy w' v.ownBlock -> wpList P ops Q rest (a.put o.dst v') w') : wpList P ops Q (o :: rest) a w := by
 obtain ⟨i, z, hi, hz, q1, q2, q3, q4⟩ := hE;refine wpList_plain hgd fun K hK => ?_;cases xa with
 | none =>
  obtain ⟨rfl, rfl⟩ := hnil rfl;have : news = [] := List.eq_nil_of_length_eq_zero (by rw [hl]; omega);subst this;have hrun := run_append_owned_none (P := P) (w := w) base t o.type e i size ht hi v n xs hown;rw [<- zch ht ht2] at hrun;unfold Oper.wp;simp [execOp, ho, resolve, invoke, builtin, hs, hx, hrun, Result.andThen];exact hK _ _ (h v w (by simpa using hown) ⟨rfl, rfl, rfl, Nat.le_refl _, fun _ _ _ => rfl⟩)
 | some ad =>
  have hnews : ∀ j u, news[j]? = some u -> w.cell? (ad.add j) = some u := fun j u hj => by
   obtain ⟨g, oo, e1, hcell⟩ := hc j u hj;cases e1;rw [yn]; exact hcell
  obtain ⟨v', w', hr, h2, h3, _⟩ := run_append_own (P := P) w base t o.type e i z size bytes ht hi hz q1 q2 q3 q4 v n xs hown ad m c news hl hnews h1 h63 hbytes hbase;rw [<- zch ht ht2] at hr;unfold Oper.wp execOp;simp only [ho, resolve, invoke, builtin, Sem.run_bind, Sem.run_pure, Result.andThen_ok, List.map_toArray, List.map_cons, List.map_nil, hs, hx, hr];exact hK _ _ (h v' w' h2 h3)
def YJ (R : List zA) : List ByteArray := R.flatMap fun r => [r.1, r.2]
theorem zgg {R : List zA} {k : Nat} {r : zA} (h : R[k]? = some r) : YJ (R.take (k + 1)) = YJ (R.take k) ++ [r.1, r.2] := by
 unfold YJ;rw [List.take_add_one, h, List.flatMap_append];simp
theorem za9 (R : List zA) : (YJ R).length = R.length * 2 := by
 unfold YJ;induction R with
 | nil => rfl
 | cons r R ih => rw [List.flatMap_cons, List.length_append, ih]; simp; omega
def yY (C : List zn) : List ByteArray := C.flatMap fun c => c.sp :: c.fr
theorem zgi {C : List zn} {k : Nat} {c : zn} (h : C[k]? = some c) : yY (C.take (k + 1)) = yY (C.take k) ++ (c.sp :: c.fr) := by
 unfold yY;rw [List.take_add_one, h, List.flatMap_append];simp
theorem Xk (a b : List ByteArray) : zC (a ++ b) = zC a ++ zC b := by unfold zC; rw [List.map_append]
theorem Xj (a : List ByteArray) : (zC a).length = a.length := by unfold zC; rw [List.length_map]
theorem zct {w0 w w' : World} {t : TypeId} {sz n : Nat} {v : Value} {xs : List Value} (h : w.ownsRow w0.heap.size t sz v n xs) (k : Chg (fun _ => False) w0 w) (g : w.grownBy w' v.ownBlock) : Chg (fun _ => False) w0 w' :=
 k.next (Chg.of_grown g) (fun x hx e => by have := (h.lt x e).1; omega)
end Go.Proofs.YthdfplafihmejaaGreat
