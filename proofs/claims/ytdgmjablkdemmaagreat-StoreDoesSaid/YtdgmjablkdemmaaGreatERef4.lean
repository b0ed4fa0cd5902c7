/-
  The reference's store: Put.
-/
import Derived.Test.YtdgmjablkdemmaaGreatEPlain
import Derived.Test.YtdgmjablkdemmaaGreatESame
import Derived.Test.YtdgmjablkdemmaaGreatDCheck
namespace Go.Proofs.YtdgmjablkdemmaaGreat
open Go.RowKit Go.Maps

def RPutRes (w : World) (b : Nat) (R : Nat → Prop) (r : Nat × Nat × PStore) (e : Ending) (w' : World) : Prop :=
  ∃ R', e = .returned (.tuple #[.int .i64 (r.1 : Int), .int .i64 (r.2.1 : Int)]) ∧ RefS w' b R' r.2.2 ∧ Chg R w w' ∧ ∀ k, R' k → R k ∨ w.heap.size ≤ k
set_option maxHeartbeats 8000000 in
set_option maxRecDepth 100000 in
theorem rsput_any (w : World) (b : Nat) (R : Nat → Prop) (s : PStore) (c : BCert) (sa : Option Addr) (sc : Nat) (H : Nat → Prop) (h : RefS w b R s) (hc : CertAt w (.slice sa c.fr.length sc) H c) (hH : ∀ k, H k → k < w.heap.size) (hsz : c.sp.size ≤ 140737488355328) (hfs : Sizes c.fr) (hfl : c.fr.length ≤ 1000) (hfm : ∀ x ∈ c.fr, x.size ≤ maxLen) (hn : s.next ≤ 1000000) (ht : s.turn ≤ 1000000) :
    Calls Tryz.prog 10 #[.pointer (some ⟨b, 0, none⟩), certV c (.slice sa c.fr.length sc)] w (RPutRes w b R (putS s c)) := by
  have hi := h.inv
  have SAME := Lib.hid (fun w1 (q : Chg (fun _ => False) w w1) => show ∃ R', RefS w1 b R' s ∧ Chg R w w1 ∧ ∀ k, R' k → R k ∨ w.heap.size ≤ k from ⟨R, h.chg q (fun _ _ e => e), q.mono (fun _ _ e => e.elim), fun k hk => .inl hk⟩)
  have hRl := fun k (hk : R k) => h.lt hk
  obtain ⟨ca, cc, na, nc, xs, G, h1, hR⟩ := h.open
  have hl200 : s.certs.length ≤ 200 := Nat.le_trans hi.len hi.room2
  have hr200 := hi.room2
  have H1 := Lib.hid h1
  have HL := Lib.hid hH
  have HRR := Lib.hid (And.intro hR hRl)
  have CH := Lib.hid (fun w1 (q : Chg (fun _ => False) w w1) => rcheck_any w1 c sa sc H (hc.chg q (fun _ _ e => e)) hsz hfs)
  have PB := Lib.hid (fun (q : certB c = false) => @putS_bad s c q)
  have PH := Lib.hid (fun (q : certB c = true) (k i : Nat) (d : BCert) (hk : s.certs[k]? = some (i, d)) (e : d = c) => show putS s c = (i, 0, s) from putS_had q (by rw [← e]; exact hi.numOf_mem (List.mem_of_getElem? hk)))
  have NO := Lib.hid (fun (q : certB c = true) (hno : ∀ (j i : Nat) d, s.certs[j]? = some (i, d) → d ≠ c) => show s.numOf (certE c) = none from by
    rw [numOf_eq hi q, Option.map_eq_none_iff, List.find?_eq_none]
    intro p hp e
    obtain ⟨j, hj⟩ := List.mem_iff_getElem?.1 hp
    exact hno j p.1 p.2 hj (by simpa using e))
  have PF := Lib.hid (fun (q : certB c = true) (hno : s.numOf (certE c) = none) (hr : s.room ≤ s.certs.length) => putS_full q hno hr)
  have PN := Lib.hid (fun (q : certB c = true) (hno : s.numOf (certE c) = none) (hr : ¬ s.room ≤ s.certs.length) => And.intro (putS_new q hno hr) (hi.plus q hno (by omega)))
  have SP := Lib.hid (show (s.plus c).certs = s.certs ++ [(s.next, c)] ∧ (s.plus c).room = s.room ∧ (s.plus c).next = s.next + 1 ∧ (s.plus c).turn = s.turn + 1 from ⟨rfl, rfl, rfl, rfl⟩)
  have HC := Lib.hid hc
  have FM := Lib.hid hfm
  have SM := Lib.hid (fun W (d : BCert) (da : Option Addr) (dc : Nat) (kw : Chg (fun _ => False) w W) (hd : CertAt W (.slice da d.fr.length dc) G d) => rsame_any W d c da sa dc sc G H hd (hc.chg kw (fun _ _ e => e)))
  have HGL := Lib.hid (show ∀ k, G k → k < w.heap.size from fun k hk => by
    obtain ⟨cs, q⟩ := h1.typ k hk
    exact lt_of_obj q)
  have hbl : b < w.heap.size := lt_of_obj h1.own
  have hsg := hc.sg
  have hspm := hc.sp
  have HNIL := Lib.hid hc.set.nil
  have SRC := Lib.hid (fun W (kw : Chg (fun _ => False) w W) => words_src (hc.chg kw (fun _ _ e => e)).set.at_)
  clear h h1 hi hH hR hRl hc hfs hsz hfm
  generalize hps : putS s c = res at *
  generalize hsp : s.plus c = sp' at *
  clear hps hsp
  obtain ⟨kind, sg, sp, fr, fv, tv, num⟩ := c
  unfold certV at CH SM ⊢
  simp only at CH PB PH NO PF PN SP HC FM SM hfl hsg hspm HNIL SRC ⊢
  have OB := Lib.hid (obj_alloc_new w (.cells #[.int .i64 kind, .int .u16 (sg : Int), .string sp, .slice sa fr.length sc, .int .i64 fv, .int .i64 tv, .int .i64 num] 34))
  have K0 := Lib.hid (chg_alloc (fun _ => False) w (.cells #[.int .i64 kind, .int .u16 (sg : Int), .string sp, .slice sa fr.length sc, .int .i64 fv, .int .i64 tv, .int .i64 num] 34))
  have p0 := cell_of (o := 0) OB.out rfl
  have p1 := cell_of (o := 1) OB.out rfl
  have p2 := cell_of (o := 2) OB.out rfl
  have p3 := cell_of (o := 3) OB.out rfl
  have p4 := cell_of (o := 4) OB.out rfl
  have p5 := cell_of (o := 5) OB.out rfl
  have p6 := cell_of (o := 6) OB.out rfl
  go_enter Tryz.func10, Tryz.ntmps10
  go_wp2_with fail
  clear p0 p1 p2 p3 p4 p5 p6
  generalize w.alloc (.cells #[.int .i64 kind, .int .u16 (sg : Int), .string sp, .slice sa fr.length sc, .int .i64 fv, .int .i64 tv, .int .i64 num] 34) = w1 at *
  (with_reducible refine (CH.out w1 K0.out).mono ?_)
  rintro e w2 ⟨⟨z, rfl, hz⟩, k2⟩
  have K2 := Lib.hid (K0.out.trans k2)
  have OB2 := Lib.hid (k2.obj (fun e => e) OB.out)
  clear CH k2 K0 OB
  cases hcb : certB ⟨kind, sg, sp, fr, fv, tv, num⟩ with
  | false =>
    have g1 : (z != 0) = true := by
      rw [bne_iff_ne]
      intro e
      have := hz.1 e
      rw [hcb] at this
      cases this
    have R0 := PB.out hcb
    subst R0
    clear hz hcb
    go_wp2
    go_ret2
    obtain ⟨R', r1, r2, r3⟩ := SAME.out _ K2.out
    exact ⟨R', rfl, r1, r2, r3⟩
  | true =>
  obtain rfl : z = 0 := hz.2 hcb
  have HCB := Lib.hid hcb
  have YES := Lib.hid (PH.out hcb)
  have NOT := Lib.hid (NO.out hcb)
  clear hz hcb PB PH NO
  have b0 := cell_of (o := 0) (K2.out.obj (fun e => e) H1.out.own) rfl
  go_wp2
  clear b0
  go_loopw [6] (fun iv wr => ∃ k : Nat, k ≤ s.certs.length ∧ iv = .int .i64 k ∧ Hid ((∀ (j i : Nat) d, j < k → s.certs[j]? = some (i, d) → d ≠ (⟨kind, sg, sp, fr, fv, tv, num⟩ : BCert)) ∧ Chg (fun _ => False) w2 wr)) (fun iv _ => s.certs.length - (intOf iv).toNat)
  case atStart => exact ⟨0, by omega, rfl, Lib.hid ⟨fun j i d hj => by omega, Chg.refl _ _⟩⟩
  case round =>
    obtain ⟨k, hk, rfl, HI⟩ := hrel
    have NX := Lib.hid HI.out.1
    have KR := Lib.hid HI.out.2
    have KW := Lib.hid (K2.out.trans KR.out)
    clear HI
    have b0 := cell_of (o := 0) (KW.out.obj (fun e => e) H1.out.own) rfl
    have b1 := cell_of (o := 1) (KW.out.obj (fun e => e) H1.out.own) rfl
    by_cases hlt : k < s.certs.length
    · obtain ⟨⟨i, d⟩, hx⟩ : ∃ p, s.certs[k]? = some p := ⟨_, List.getElem?_eq_getElem hlt⟩
      obtain ⟨g, f, da, dc, rfl, rfl, x7, x0, x1, x2, x3, x4, x5, x6, hd⟩ := H1.out.item hx
      have X7 := Lib.hid x7
      have HX := Lib.hid (YES.out k i d hx)
      have NY := Lib.hid (show d ≠ (⟨kind, sg, sp, fr, fv, tv, num⟩ : BCert) → ∀ (j i : Nat) e, j < k + 1 → s.certs[j]? = some (i, e) → e ≠ (⟨kind, sg, sp, fr, fv, tv, num⟩ : BCert) from fun hne j i' e hj hy => by
        rcases Nat.lt_or_ge j k with q | q
        · exact NX.out j i' e q hy
        · obtain rfl : j = k := by omega
          rw [hx] at hy; cases hy; exact hne)
      have CA := SM.out wr.drew d da dc KW.out.drew (hd.chg KW.out.drew (fun _ _ e => e))
      obtain ⟨bb, hbb⟩ : ∃ bb, bb = decide (d = (⟨kind, sg, sp, fr, fv, tv, num⟩ : BCert)) := ⟨_, rfl⟩
      rw [← hbb] at CA
      have HXB := Lib.hid (fun (e : bb = true) => HX.out (of_decide_eq_true (hbb.symm.trans e)))
      have NYB := Lib.hid (fun (e : bb = false) => NY.out (of_decide_eq_false (hbb.symm.trans e)))
      clear hbb HX NY
      obtain ⟨dk, dg, dp, df, d4, d5, d6⟩ := d
      simp only at x0 x1 x2 x3 x4 x5 x6 CA
      have CA := Lib.hid CA
      have DD := Lib.hid (fun W (kw : Chg (fun _ => False) w W) (k2 : Chg (fun _ => False) w2 W) => show W.cell? ⟨b, 0, none⟩ = some (.slice (some ⟨g, 0, none⟩) s.certs.length cc) ∧ (W.cell? ⟨g, k * 7, none⟩ = some (.int .i64 dk) ∧ W.cell? ⟨g, k * 7 + 1, none⟩ = some (.int .u16 (dg : Int)) ∧ W.cell? ⟨g, k * 7 + 2, none⟩ = some (.string dp) ∧ W.cell? ⟨g, k * 7 + 3, none⟩ = some (.slice da df.length dc) ∧ W.cell? ⟨g, k * 7 + 4, none⟩ = some (.int .i64 d4) ∧ W.cell? ⟨g, k * 7 + 5, none⟩ = some (.int .i64 d5) ∧ W.cell? ⟨g, k * 7 + 6, none⟩ = some (.int .i64 d6)) ∧ W.cell? ⟨w.heap.size, 0, none⟩ = some (.int .i64 kind) ∧ W.cell? ⟨w.heap.size, 1, none⟩ = some (.int .u16 (sg : Int)) ∧ W.cell? ⟨w.heap.size, 2, none⟩ = some (.string sp) ∧ W.cell? ⟨w.heap.size, 3, none⟩ = some (.slice sa fr.length sc) ∧ W.cell? ⟨w.heap.size, 4, none⟩ = some (.int .i64 fv) ∧ W.cell? ⟨w.heap.size, 5, none⟩ = some (.int .i64 tv) ∧ W.cell? ⟨w.heap.size, 6, none⟩ = some (.int .i64 num) from ⟨cell_of (o := 0) (kw.obj (fun e => e) H1.out.own) rfl, ⟨cell_chg kw (fun e => e) x0, cell_chg kw (fun e => e) x1, cell_chg kw (fun e => e) x2, cell_chg kw (fun e => e) x3, cell_chg kw (fun e => e) x4, cell_chg kw (fun e => e) x5, cell_chg kw (fun e => e) x6⟩, cell_of (o := 0) (k2.obj (fun e => e) OB2.out) rfl, cell_of (o := 1) (k2.obj (fun e => e) OB2.out) rfl, cell_of (o := 2) (k2.obj (fun e => e) OB2.out) rfl, cell_of (o := 3) (k2.obj (fun e => e) OB2.out) rfl, cell_of (o := 4) (k2.obj (fun e => e) OB2.out) rfl, cell_of (o := 5) (k2.obj (fun e => e) OB2.out) rfl, cell_of (o := 6) (k2.obj (fun e => e) OB2.out) rfl⟩)
      clear x0 x1 x2 x3 x4 x5 x6 x7 hx hd NX YES NOT
      go_wp2_with fail
      refine wp_region_plan (N := 92) [.rd [0, 1, 2, 3, 4, 5, 6, 7], .ef 8] (fun W => W.cell? ⟨b, 0, none⟩ = some (.slice (some ⟨g, 0, none⟩) s.certs.length cc) ∧ (W.cell? ⟨g, k * 7, none⟩ = some (.int .i64 dk) ∧ W.cell? ⟨g, k * 7 + 1, none⟩ = some (.int .u16 (dg : Int)) ∧ W.cell? ⟨g, k * 7 + 2, none⟩ = some (.string dp) ∧ W.cell? ⟨g, k * 7 + 3, none⟩ = some (.slice da df.length dc) ∧ W.cell? ⟨g, k * 7 + 4, none⟩ = some (.int .i64 d4) ∧ W.cell? ⟨g, k * 7 + 5, none⟩ = some (.int .i64 d5) ∧ W.cell? ⟨g, k * 7 + 6, none⟩ = some (.int .i64 d6)) ∧ W.cell? ⟨w.heap.size, 0, none⟩ = some (.int .i64 kind) ∧ W.cell? ⟨w.heap.size, 1, none⟩ = some (.int .u16 (sg : Int)) ∧ W.cell? ⟨w.heap.size, 2, none⟩ = some (.string sp) ∧ W.cell? ⟨w.heap.size, 3, none⟩ = some (.slice sa fr.length sc) ∧ W.cell? ⟨w.heap.size, 4, none⟩ = some (.int .i64 fv) ∧ W.cell? ⟨w.heap.size, 5, none⟩ = some (.int .i64 tv) ∧ W.cell? ⟨w.heap.size, 6, none⟩ = some (.int .i64 num)) (by kernel_rfl) (by kernel_rfl) (by kernel_rfl) (by kernel_rfl) (Nat.le_of_ble_eq_true rfl) (DD.out wr KW.out KR.out) ?_
      refine plan_rd (A := ?A1) ?h1 ?h2
      case h1 =>
        rintro w' ⟨z0, ⟨z1, z2, z3, z4, z5, z6, z7⟩, z8, z9, z10, z11, z12, z13, z14⟩ K hK
        simp only [opsAt, List.filterMap_cons, List.filterMap_nil, List.getElem?_toArray, List.getElem?_cons_succ, List.getElem?_cons_zero]
        repeat still_step
        refine wpStill_nil ?_
        exact hK
      have KD := Lib.hid KW.out.drew
      have RD := Lib.hid KR.out.drew
      clear KW KR b0 b1
      generalize wr.drew = wd at *
      refine plan_ef rfl ?_
      go_wp2_with fail
      (with_reducible refine (CA.out).mono ?_)
      rintro e w3 ⟨rfl, k3⟩
      have K3 := Lib.hid (KD.out.trans k3)
      have R3 := Lib.hid (RD.out.trans k3)
      clear k3 CA KD RD
      go_wp2_with fail
      refine ⟨DD.out w3 K3.out R3.out, ?_⟩
      refine plan_nil ?_
      have a1 := cell_of (o := 1) (K3.out.obj (fun e => e) H1.out.own) rfl
      have y7 := cell_chg K3.out (fun e => e) X7.out
      cases bb with
      | true =>
        have R0 := HXB.out rfl
        subst R0
        go_wp2
        go_ret2
        obtain ⟨R', r1, r2, r3⟩ := SAME.out _ K3.out
        exact ⟨R', rfl, r1, r2, r3⟩
      | false =>
        have N3 := Lib.hid (NYB.out rfl)
        go_wp2
        go_roundw
        case rel => exact ⟨k + 1, by omega, by go_num, Lib.hid ⟨N3.out, R3.out⟩⟩
        case measure => simp [intOf]; omega
    · obtain rfl : k = s.certs.length := by omega
      have HNO := Lib.hid (NOT.out (fun j i d hj => NX.out j i d (List.getElem?_eq_some_iff.1 hj).1 hj))
      clear NX YES NOT SM
      go_wp2_with fail
      have d0 := cell_of (o := 0) (KW.out.drew.obj (fun e => e) H1.out.own) rfl
      have d2 := cell_of (o := 2) (KW.out.drew.obj (fun e => e) H1.out.own) rfl
      refine wp_still_drew (by kernel_rfl) (by kernel_rfl) ?_
      repeat still_step
      refine wpStill_nil ?_
      have KD := Lib.hid KW.out.drew
      have OBd := Lib.hid (KR.out.drew.obj (fun e => e) OB2.out)
      clear b0 b1 KW KR d0 d2
      generalize wr.drew = wd at *
      by_cases hfull : s.room ≤ s.certs.length
      · have g1 : decide ((s.room : Int) ≤ (s.certs.length : Int)) = true := decide_eq_true (by omega)
        have g2 : decide (s.room ≤ s.certs.length) = true := decide_eq_true hfull
        have R0 := PF.out HCB.out HNO.out hfull
        subst R0
        go_wp2
        go_ret2
        obtain ⟨R', r1, r2, r3⟩ := SAME.out _ KD.out
        exact ⟨R', rfl, r1, r2, r3⟩
      have g1 : decide ((s.room : Int) ≤ (s.certs.length : Int)) = false := decide_eq_false (by omega)
      have g2 : decide (s.room ≤ s.certs.length) = false := decide_eq_false hfull
      obtain ⟨R0, hip⟩ := PN.out HCB.out HNO.out hfull
      subst R0
      have HIP := Lib.hid hip
      clear hip PF PN HNO HCB
      have p3 := cell_of (o := 3) ((chg_alloc (fun _ => False) wd (.cells #[] 23)).obj (fun e => e) OBd.out) rfl
      have hw5 : w.heap.size < wd.heap.size := lt_of_obj OBd.out
      go_wp2_with (at_builtin; refine wpList_pushS rfl (.tmp 45) (.tmp 47) 32 rfl 23 1 16 Tryz.underlying32 Tryz.elemWord wd.heap.size _ 0 [] rfl (own_empty _ _ _ _ (Nat.le_refl _)) sa fr.length sc (wcells fr) rfl ?a1 ?a2 ?a3 ?a4 ?a5 ?a6 ?a7 ?nx1)
      case a1 => unfold wcells; rw [List.length_map]; omega
      case a2 => exact SRC.out _ (KD.out.alloc _)
      case a3 => exact fun e => by subst e; exact HNIL.out _ _ rfl
      case a4 => exact wcells_one fr
      case a5 => omega
      case a6 => unfold maxLen; omega
      case a7 => rw [World.size_alloc]; omega
      intro v5 w5 o5 g5
      try rw [Nat.zero_add] at o5
      obtain ⟨a5, c5, rfl⟩ := own_shape o5
      have kd := (chg_alloc (fun _ => False) wd (.cells #[] 23)).grown g5 (fun j hj hl => by simp [Value.ownBlock] at hj; omega)
      have O5 := Lib.hid (show w5.ownsRow wd.heap.size 23 1 (.slice a5 fr.length c5) fr.length (wcells fr) from by simpa using o5)
      have K5 := Lib.hid (KD.out.trans kd)
      have OB5 := Lib.hid (kd.obj (fun e => e) OBd.out)
      have hs5 := KD.out.size
      have hw5' : wd.heap.size ≤ w5.heap.size := kd.size
      clear o5 g5 kd OBd p3 KD
      have p3 := cell_of (o := 3) OB5.out rfl
      have e3 := frozen_of (o := 3) OB5.out
      go_wp2_with fail
      have kc6 := chg_cell w5 w.heap.size 3 (.slice a5 fr.length c5)
      have OB6 := Lib.hid (show (w5.setCell ⟨w.heap.size, 3, none⟩ (.slice a5 fr.length c5)).heap[w.heap.size]? = some (.cells #[.int .i64 kind, .int .u16 (sg : Int), .string sp, .slice a5 fr.length c5, .int .i64 fv, .int .i64 tv, .int .i64 num] 34 (0, 0)) from obj_setCell (o := 3) OB5.out _)
      have O6 := Lib.hid (own_chg O5.out kc6 (fun k hk e => by have := (O5.out.lt k hk).1; omega))
      have RBL := Lib.hid (show ∀ k, RefB b (.slice ca s.certs.length cc) (.slice na s.certs.length nc) G k → k < w.heap.size from fun k hk => HRR.out.2 k (HRR.out.1 k hk))
      have toC := H1.out.toC
      obtain ⟨nl, hnl⟩ : ∃ nl, nl = s.certs.map Prod.fst := ⟨_, rfl⟩
      rw [← hnl] at toC
      have NLE := Lib.hid hnl
      have nl1 : nl.length ≤ s.certs.length := by rw [hnl, List.length_map]; exact Nat.le_refl _
      clear hnl
      have C6 := Lib.hid ((toC.chg K5.out (fun _ _ e => e)).chg kc6 (fun k hk e => by have := RBL.out k hk; omega))
      have K6 := Lib.hid (show Chg R w (w5.setCell ⟨w.heap.size, 3, none⟩ (.slice a5 fr.length c5)) from (K5.out.mono (fun _ _ e => e.elim)).next kc6 (fun i hi e => by omega))
      have hs6 : w5.heap.size ≤ (w5.setCell ⟨w.heap.size, 3, none⟩ (.slice a5 fr.length c5)).heap.size := kc6.size
      clear p3 e3 kc6 K5 OB5 O5 toC
      generalize w5.setCell ⟨w.heap.size, 3, none⟩ (.slice a5 fr.length c5) = w6 at *
      have ST := Lib.hid (fun W (q : RefC W b (.slice ca s.certs.length cc) (.slice na s.certs.length nc) xs nl G s.room s.next s.turn) (ob : W.heap[w.heap.size]? = some (.cells #[.int .i64 kind, .int .u16 (sg : Int), .string sp, .slice a5 fr.length c5, .int .i64 fv, .int .i64 tv, .int .i64 num] 34 (0, 0))) => show W.cell? ⟨b, 0, none⟩ = some (.slice ca s.certs.length cc) ∧ W.cell? ⟨w.heap.size, 0, none⟩ = some (.int .i64 kind) ∧ W.cell? ⟨w.heap.size, 1, none⟩ = some (.int .u16 (sg : Int)) ∧ W.cell? ⟨w.heap.size, 2, none⟩ = some (.string sp) ∧ W.cell? ⟨w.heap.size, 3, none⟩ = some (.slice a5 fr.length c5) ∧ W.cell? ⟨w.heap.size, 4, none⟩ = some (.int .i64 fv) ∧ W.cell? ⟨w.heap.size, 5, none⟩ = some (.int .i64 tv) ∧ W.cell? ⟨w.heap.size, 6, none⟩ = some (.int .i64 num) from ⟨cell_of (o := 0) q.own rfl, cell_of (o := 0) ob rfl, cell_of (o := 1) ob rfl, cell_of (o := 2) ob rfl, cell_of (o := 3) ob rfl, cell_of (o := 4) ob rfl, cell_of (o := 5) ob rfl, cell_of (o := 6) ob rfl⟩)
      refine wp_region_planL (N := 92) [.rd [0, 1, 2, 3, 4, 5], .ef 6, .ef 7, .ef 8, .ef 9, .ef 10] 10 (fun W => W.cell? ⟨b, 0, none⟩ = some (.slice ca s.certs.length cc) ∧ W.cell? ⟨w.heap.size, 0, none⟩ = some (.int .i64 kind) ∧ W.cell? ⟨w.heap.size, 1, none⟩ = some (.int .u16 (sg : Int)) ∧ W.cell? ⟨w.heap.size, 2, none⟩ = some (.string sp) ∧ W.cell? ⟨w.heap.size, 3, none⟩ = some (.slice a5 fr.length c5) ∧ W.cell? ⟨w.heap.size, 4, none⟩ = some (.int .i64 fv) ∧ W.cell? ⟨w.heap.size, 5, none⟩ = some (.int .i64 tv) ∧ W.cell? ⟨w.heap.size, 6, none⟩ = some (.int .i64 num)) (by kernel_rfl) (by kernel_rfl) (by kernel_rfl) (by kernel_rfl) (by kernel_rfl) (Nat.le_of_ble_eq_true rfl) (ST.out _ (C6.out.chg (chg_drew (fun _ => False) w6) (fun _ _ e => e)) ((chg_drew (fun _ => False) w6).obj (fun e => e) OB6.out)) ?_
      refine planL_rd (A := ?B1) ?i1 ?i2
      case i1 =>
        rintro w' ⟨z0, z1, z2, z3, z4, z5, z6, z7⟩ K hK
        simp only [opsAt, List.filterMap_cons, List.filterMap_nil, List.getElem?_toArray, List.getElem?_cons_succ, List.getElem?_cons_zero]
        repeat still_step
        refine wpStill_nil ?_
        exact hK
      have kd := chg_drew (fun _ => False) w6
      have C7 := Lib.hid (C6.out.chg kd (fun _ _ e => e))
      have OB7 := Lib.hid (kd.obj (fun e => e) OB6.out)
      have O7 := Lib.hid (own_chg O6.out kd (fun _ _ e => e))
      have K7 := Lib.hid K6.out.drew
      have hs7 : w6.heap.size ≤ w6.drew.heap.size := kd.size
      clear kd C6 OB6 O6 K6
      generalize w6.drew = w7 at *
      refine planL_ef rfl ?_
      go_wp2_with fail
      have ka := chg_alloc (fun _ => False) w7 (.cells #[.int .i64 kind, .int .u16 (sg : Int), .string sp, .slice a5 fr.length c5, .int .i64 fv, .int .i64 tv, .int .i64 num] 34)
      have C8 := Lib.hid (C7.out.chg ka (fun _ _ e => e))
      have OB8 := Lib.hid (ka.obj (fun e => e) OB7.out)
      have O8 := Lib.hid (own_chg O7.out ka (fun _ _ e => e))
      have K8 := Lib.hid (K7.out.alloc (.cells #[.int .i64 kind, .int .u16 (sg : Int), .string sp, .slice a5 fr.length c5, .int .i64 fv, .int .i64 tv, .int .i64 num] 34))
      have hs8 : w7.heap.size ≤ (w7.alloc (.cells #[.int .i64 kind, .int .u16 (sg : Int), .string sp, .slice a5 fr.length c5, .int .i64 fv, .int .i64 tv, .int .i64 num] 34)).heap.size := ka.size
      have obn := obj_alloc_new w7 (.cells #[.int .i64 kind, .int .u16 (sg : Int), .string sp, .slice a5 fr.length c5, .int .i64 fv, .int .i64 tv, .int .i64 num] 34)
      refine ⟨.inr (ST.out _ C8.out OB8.out), ?_⟩
      clear ka C7 OB7 O7 K7
      have hxl : xs.length ≤ 200 := by have := H1.out.len; omega
      refine planL_ef rfl ?_
      refine wpList_pushF rfl (.tmp 54) (.tmp 56) 47 rfl 34 7 80 Tryz.underlying47 Tryz.elemCert 0 (.slice ca s.certs.length cc) xs.length (ccells xs) rfl C8.out.rowC w7.heap.size [.int .i64 kind, .int .u16 (sg : Int), .string sp, .slice a5 fr.length c5, .int .i64 fv, .int .i64 tv, .int .i64 num] 34 (0, 0) rfl obn rfl (by intro u hu; simp at hu; rcases hu with rfl | rfl | rfl | rfl | rfl | rfl | rfl <;> rfl) (by omega) (by unfold maxLen; omega) (Nat.zero_le _) ?_
      generalize w7.alloc (.cells #[.int .i64 kind, .int .u16 (sg : Int), .string sp, .slice a5 fr.length c5, .int .i64 fv, .int .i64 tv, .int .i64 num] 34) = w8 at *
      intro v9 w9 o9 g9 sn9
      obtain ⟨a9, c9, rfl⟩ := own_shape o9
      have AP := C8.out.apart
      have kg := Chg.of_grown g9
      have own9 := kg.obj (fun e => AP.cb _ e rfl) C8.out.own
      have ob9 := kg.obj (fun e => by have := RBL.out _ (.inr (.inl e)); omega) OB8.out
      have c0 := cell_of (o := 0) own9 rfl
      have f0 := frozen_of (o := 0) own9
      have PC := Lib.hid (C8.out.pushC (c := ⟨kind, sg, sp, fr, fv, tv, num⟩) ⟨setAt_own O8.out FM.out, hspm, hsg⟩ (fun k hk => own_cells O8.out hk) g9 o9)
      have RB9 := Lib.hid (show ∀ k, (Value.slice a9 (xs.length + 1) c9).ownBlock = some k → R k ∨ w.heap.size ≤ k from fun k hk => by
        rcases sn9 with q | q
        · exact .inl (HRR.out.1 k (.inr (.inl (by rw [← q]; exact hk))))
        · have := q k hk
          exact .inr (by omega))
      have RBG := Lib.hid (show ∀ k, (Value.slice a5 fr.length c5).ownBlock = some k → w.heap.size ≤ k from fun k hk => by have := (O8.out.lt k hk).1; omega)
      have hs9 : w8.heap.size ≤ w9.heap.size := kg.size
      go_wp2_with fail
      first | refine ⟨.inr ⟨c0, cell_of (o := 0) ob9 rfl, cell_of (o := 1) ob9 rfl, cell_of (o := 2) ob9 rfl, cell_of (o := 3) ob9 rfl, cell_of (o := 4) ob9 rfl, cell_of (o := 5) ob9 rfl, cell_of (o := 6) ob9 rfl⟩, ?_⟩ | refine ⟨⟨c0, cell_of (o := 0) ob9 rfl, cell_of (o := 1) ob9 rfl, cell_of (o := 2) ob9 rfl, cell_of (o := 3) ob9 rfl, cell_of (o := 4) ob9 rfl, cell_of (o := 5) ob9 rfl, cell_of (o := 6) ob9 rfl⟩, ?_⟩
      refine planL_ef rfl ?_
      go_wp2_with fail
      first | refine ⟨.inr ⟨c0, cell_of (o := 0) ob9 rfl, cell_of (o := 1) ob9 rfl, cell_of (o := 2) ob9 rfl, cell_of (o := 3) ob9 rfl, cell_of (o := 4) ob9 rfl, cell_of (o := 5) ob9 rfl, cell_of (o := 6) ob9 rfl⟩, ?_⟩ | refine ⟨⟨c0, cell_of (o := 0) ob9 rfl, cell_of (o := 1) ob9 rfl, cell_of (o := 2) ob9 rfl, cell_of (o := 3) ob9 rfl, cell_of (o := 4) ob9 rfl, cell_of (o := 5) ob9 rfl, cell_of (o := 6) ob9 rfl⟩, ?_⟩
      refine planL_ef rfl ?_
      go_wp2_with fail
      first | refine ⟨.inr ⟨c0, cell_of (o := 0) ob9 rfl, cell_of (o := 1) ob9 rfl, cell_of (o := 2) ob9 rfl, cell_of (o := 3) ob9 rfl, cell_of (o := 4) ob9 rfl, cell_of (o := 5) ob9 rfl, cell_of (o := 6) ob9 rfl⟩, ?_⟩ | refine ⟨⟨c0, cell_of (o := 0) ob9 rfl, cell_of (o := 1) ob9 rfl, cell_of (o := 2) ob9 rfl, cell_of (o := 3) ob9 rfl, cell_of (o := 4) ob9 rfl, cell_of (o := 5) ob9 rfl, cell_of (o := 6) ob9 rfl⟩, ?_⟩
      clear AP kg own9 ob9 o9 g9 sn9
      refine planL_ef rfl ?_
      go_wp2_with fail
      first | refine ⟨.inl rfl, planL_nil ?_⟩ | (unfold PlanQ; refine planL_nil ?_)
      have C10 := Lib.hid PC.out.1
      have K10 := Lib.hid (K8.out.next PC.out.2 (fun i hi e => by
        rcases e with rfl | e
        · exact HRR.out.1 _ (.inl rfl)
        · exact HRR.out.1 _ (.inr (.inl e))))
      have hs10 : w9.heap.size ≤ (w9.setCell ⟨b, 0, none⟩ (.slice a9 (xs.length + 1) c9)).heap.size := (chg_cell w9 b 0 _).size
      clear PC c0 f0 C8 OB8 O8 K8 ST obn
      generalize w9.setCell ⟨b, 0, none⟩ (.slice a9 (xs.length + 1) c9) = w10 at *
      go_wp2_with fail
      have S2 := Lib.hid (fun W (q : RefC W b (.slice a9 (xs.length + 1) c9) (.slice na s.certs.length nc) (xs ++ [((⟨kind, sg, sp, fr, fv, tv, num⟩ : BCert), Value.slice a5 fr.length c5)]) nl (fun k => G k ∨ (Value.slice a5 fr.length c5).ownBlock = some k) s.room s.next s.turn) => show W.cell? ⟨b, 1, none⟩ = some (.slice na s.certs.length nc) ∧ W.cell? ⟨b, 3, none⟩ = some (.int .i64 (s.next : Int)) from ⟨cell_of (o := 1) q.own rfl, cell_of (o := 3) q.own rfl⟩)
      refine wp_region_planL (N := 92) [.rd [0, 1, 2, 3, 4, 5, 6, 7, 8], .ef 9, .ef 10, .ef 11, .ef 12, .ef 13] 13 (fun W => W.cell? ⟨b, 1, none⟩ = some (.slice na s.certs.length nc) ∧ W.cell? ⟨b, 3, none⟩ = some (.int .i64 (s.next : Int))) (by kernel_rfl) (by kernel_rfl) (by kernel_rfl) (by kernel_rfl) (by kernel_rfl) (Nat.le_of_ble_eq_true rfl) (S2.out _ (C10.out.chg (chg_drew (fun _ => False) w10) (fun _ _ e => e))) ?_
      refine planL_rd (A := ?B2) ?j1 ?j2
      case j1 =>
        rintro w' ⟨z0, z1⟩ K hK
        simp only [opsAt, List.filterMap_cons, List.filterMap_nil, List.getElem?_toArray, List.getElem?_cons_succ, List.getElem?_cons_zero]
        repeat still_step
        refine wpStill_nil ?_
        exact hK
      have kd := chg_drew (fun _ => False) w10
      have C11 := Lib.hid (C10.out.chg kd (fun _ _ e => e))
      have K11 := Lib.hid K10.out.drew
      have hs11 : w10.heap.size ≤ w10.drew.heap.size := kd.size
      clear kd C10 K10
      generalize w10.drew = w11 at *
      refine planL_ef rfl ?_
      go_wp2_with fail
      have ka := chg_alloc (fun _ => False) w11 (.cells #[.int .i64 (s.next : Int)] 3)
      have C12 := Lib.hid (C11.out.chg ka (fun _ _ e => e))
      have K12 := Lib.hid (K11.out.alloc (.cells #[.int .i64 (s.next : Int)] 3))
      have hs12 : w11.heap.size ≤ (w11.alloc (.cells #[.int .i64 (s.next : Int)] 3)).heap.size := ka.size
      have obn := obj_alloc_new w11 (.cells #[.int .i64 (s.next : Int)] 3)
      refine ⟨.inr (S2.out _ C12.out), ?_⟩
      clear ka C11 K11
      refine planL_ef rfl ?_
      refine wpList_pushF rfl (.tmp 64) (.tmp 69) 42 rfl 3 1 8 Tryz.underlying42 Tryz.elemInt 0 (.slice na s.certs.length nc) nl.length (ints nl) rfl C12.out.rowN w11.heap.size [.int .i64 (s.next : Int)] 3 (0, 0) rfl obn rfl (by intro u hu; simp at hu; subst hu; rfl) (by omega) (by unfold maxLen; omega) (Nat.zero_le _) ?_
      generalize w11.alloc (.cells #[.int .i64 (s.next : Int)] 3) = w12 at *
      intro v13 w13 o13 g13 sn13
      obtain ⟨a13, c13, rfl⟩ := own_shape o13
      have AP := C12.out.apart
      have kg := Chg.of_grown g13
      have own13 := kg.obj (fun e => AP.nb _ e rfl) C12.out.own
      have c1 := cell_of (o := 1) own13 rfl
      have c3 := cell_of (o := 3) own13 rfl
      have f1 := frozen_of (o := 1) own13
      have PN := Lib.hid (C12.out.pushN g13 o13)
      have RB13 := Lib.hid (show ∀ k, (Value.slice a13 (nl.length + 1) c13).ownBlock = some k → R k ∨ w.heap.size ≤ k from fun k hk => by
        rcases sn13 with q | q
        · exact .inl (HRR.out.1 k (.inr (.inr (.inl (by rw [← q]; exact hk)))))
        · have := q k hk
          exact .inr (by omega))
      go_wp2_with fail
      first | refine ⟨.inr ⟨c1, c3⟩, ?_⟩ | refine ⟨⟨c1, c3⟩, ?_⟩
      refine planL_ef rfl ?_
      go_wp2_with fail
      first | refine ⟨.inr ⟨c1, c3⟩, ?_⟩ | refine ⟨⟨c1, c3⟩, ?_⟩
      refine planL_ef rfl ?_
      go_wp2_with fail
      first | refine ⟨.inr ⟨c1, c3⟩, ?_⟩ | refine ⟨⟨c1, c3⟩, ?_⟩
      clear AP kg own13 o13 g13 sn13
      refine planL_ef rfl ?_
      go_wp2_with fail
      first | refine ⟨.inl rfl, planL_nil ?_⟩ | (unfold PlanQ; refine planL_nil ?_)
      have C14 := Lib.hid PN.out.1
      have K14 := Lib.hid (K12.out.next PN.out.2 (fun i hi e => by
        rcases e with rfl | e
        · exact HRR.out.1 _ (.inl rfl)
        · exact HRR.out.1 _ (.inr (.inr (.inl e)))))
      clear PN c1 c3 f1 C12 K12 S2 obn
      generalize w13.setCell ⟨b, 1, none⟩ (.slice a13 (nl.length + 1) c13) = w14 at *
      have c3 := cell_of (o := 3) C14.out.own rfl
      have c4 := cell_of (o := 4) C14.out.own rfl
      have f3 := frozen_of (o := 3) C14.out.own
      have f4 := frozen_of (o := 4) C14.out.own
      have x1 : IntKind.i64.wrap ((s.next : Int) + 1) = (s.next : Int) + 1 := by rw [IntKind.wrap_i64]; omega
      have x2 : IntKind.i64.wrap ((s.turn : Int) + 1) = (s.turn : Int) + 1 := by rw [IntKind.wrap_i64]; omega
      have x3 : IntKind.i64.wrap ((s.next : Int) + 1 - 1) = (s.next : Int) := by rw [IntKind.wrap_i64]; omega
      have x4 : IntKind.i64.wrap (s.next : Int) = (s.next : Int) := by rw [IntKind.wrap_i64]; omega
      obtain ⟨C15, k15⟩ := C14.out.nums ((s.next : Int) + 1) ((s.turn : Int) + 1) rfl
      have C15 := Lib.hid C15
      have K15 := Lib.hid (K14.out.next k15 (fun i hi e => by rw [e]; exact HRR.out.1 _ (.inl rfl)))
      clear k15 K14
      go_wp2
      generalize (w14.setCell ⟨b, 3, none⟩ (.int .i64 ((s.next : Int) + 1))).setCell ⟨b, 4, none⟩ (.int .i64 ((s.turn : Int) + 1)) = W at *
      have IN := C15.out.toIn (s := sp') (by rw [SP.out.2.1]) (by rw [SP.out.2.2.1]; rfl) (by rw [SP.out.2.2.2]; rfl) (by rw [SP.out.1, List.map_append, List.map_append, H1.out.eq]; rfl) (by rw [SP.out.1, List.map_append, NLE.out]; rfl)
      go_ret2
      refine ⟨fun k => R k ∨ (w.heap.size ≤ k ∧ k < W.heap.size), rfl, ⟨_, _, _, _, IN, HIP.out, ?_, ?_⟩, K15.out, fun k hk => hk.imp id (fun e => e.1)⟩
      · rintro k (e | e | e | e | e)
        · exact .inl (HRR.out.1 k (.inl e))
        · exact (RB9.out k e).imp id (fun q => ⟨q, (IN.rowC.lt k e).2⟩)
        · exact (RB13.out k e).imp id (fun q => ⟨q, (IN.rowN.lt k e).2⟩)
        · exact .inl (HRR.out.1 k (.inr (.inr (.inr e))))
        · refine .inr ⟨RBG.out k e, ?_⟩
          obtain ⟨cs, q⟩ := IN.typ k (.inr e)
          exact lt_of_obj q
      · rintro k (e | e)
        · have := HRR.out.2 k e
          have := K15.out.size
          omega
        · exact e.2
end Go.Proofs.YtdgmjablkdemmaaGreat
