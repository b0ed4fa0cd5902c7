/-
  The reference's Rules, Has and Backed.
  The reference's Backed.
-/
import Derived.Test.YtjifdfhibkipnaaGreatDCheck
import Derived.Test.YtjifdfhibkipnaaGreatURun
import Derived.Test.YtjifdfhibkipnaaGreatRLeadR
import Derived.Test.YtjifdfhibkipnaaGreatRArgs
namespace Go.Proofs.YtjifdfhibkipnaaGreat
open Go.RowKit Go.Maps

set_option maxHeartbeats 2000000 in
set_option maxRecDepth 100000 in
theorem rrules_any (w : World) (c : BCert) (sa : Option Addr) (sc : Nat) (G : Nat → Prop) (h : CertAt w (.slice sa c.fr.length sc) G c) (hl : c.fr.length ≤ 1000) :
    Calls Tryz.prog 40 #[certV c (.slice sa c.fr.length sc)] w fun e w' => ∃ v, e = .returned v ∧ w'.ownsRow w.heap.size 69 2 v (crules c).length (ruleCells (crules c)) ∧ Chg (fun _ => False) w w' := by
  have HS := Lib.hid h.set.at_
  have SU := Lib.hid (fun k x => @crulesTo_succ c k x)
  have LE := Lib.hid (fun k => @crulesTo_length c k)
  have FIN := Lib.hid (show crules c = crulesTo c c.fr.length by unfold crules crulesTo; rw [List.take_length])
  have Z := Lib.hid (show crulesTo c 0 = [] by unfold crulesTo; simp)
  rw [FIN.out]
  generalize crulesTo c = T at *
  obtain ⟨kind, sg, sp, fr, f, t, num⟩ := c
  unfold certV
  simp only at HS SU LE hl ⊢
  clear h FIN
  have OA := Lib.hid (obj_alloc_new w (.cells #[.int .i64 kind, .int .u16 (sg : Int), .string sp, .slice sa fr.length sc, .int .i64 f, .int .i64 t, .int .i64 num] 60))
  have KA := Lib.hid (chg_alloc (fun _ => False) w (.cells #[.int .i64 kind, .int .u16 (sg : Int), .string sp, .slice sa fr.length sc, .int .i64 f, .int .i64 t, .int .i64 num] 60))
  have hs1 : (w.alloc (.cells #[.int .i64 kind, .int .u16 (sg : Int), .string sp, .slice sa fr.length sc, .int .i64 f, .int .i64 t, .int .i64 num] 60)).heap.size = w.heap.size + 1 := World.size_alloc ..
  go_enter Tryz.func40, Tryz.ntmps40
  go_wp2
  generalize hw1 : w.alloc (.cells #[.int .i64 kind, .int .u16 (sg : Int), .string sp, .slice sa fr.length sc, .int .i64 f, .int .i64 t, .int .i64 num] 60) = w1 at *
  clear hw1
  rw [← hs1]
  have HS1 := Lib.hid hs1
  clear hs1
  have KE := Lib.hid (chg_alloc (fun _ => False) w1 (.cells #[] 69))
  go_loopw [3, 4] (fun v iv wr => ∃ k : Nat, k ≤ fr.length ∧ iv = .int .i64 k ∧ Hid (wr.ownsRow w1.heap.size 69 2 v (T k).length (ruleCells (T k)) ∧ Chg (fun _ => False) w1 wr)) (fun _ iv _ => fr.length - (intOf iv).toNat)
  case atStart => exact ⟨0, by omega, rfl, Lib.hid ⟨by rw [Z.out]; exact own_empty _ _ _ _ (Nat.le_refl _), KE.out⟩⟩
  case round =>
    obtain ⟨k, hk, rfl, HI⟩ := hrel
    obtain ⟨ab, cb, eb⟩ := own_shape HI.out.1
    subst eb
    have HO := Lib.hid HI.out.1
    have KC := Lib.hid HI.out.2
    have tl : (T k).length ≤ 1000 := by rw [LE.out k hk]; omega
    have d2 := cell_of (o := 2) (KC.out.obj (fun e => e) OA.out) rfl
    have d3 := cell_of (o := 3) (KC.out.obj (fun e => e) OA.out) rfl
    clear HI
    by_cases hlt : k < fr.length
    · obtain ⟨x, hx⟩ : ∃ x, fr[k]? = some x := ⟨_, List.getElem?_eq_getElem hlt⟩
      obtain ⟨_, _, e1, _, hcl⟩ := HS.out.chg KA.out (fun _ _ e => e)
      cases e1
      obtain ⟨lb, lo, rfl, _, x00, hxs⟩ := hcl k x hx
      have x0 := cell_chg KC.out (fun e => e) x00
      have NX := Lib.hid (SU.out k x hx)
      have hb4 : w1.heap.size ≤ wr.heap.size := KC.out.size
      have DD := Lib.hid (fun wd (q : Chg (fun _ => False) w1 wd) => And.intro (cell_chg q (fun e => e) x00) (And.intro (cell_chg q (fun e => e) (cell_of (o := 2) OA.out rfl)) (cell_chg q (fun e => e) (cell_of (o := 3) OA.out rfl))))
      clear hcl hx x00
      go_wp2_with fail
      refine wp_region_plan (N := 25) [.rd [0, 1, 2, 3, 4, 5, 6, 7, 8], .ef 9, .ef 10, .rd [11]] (fun W => W.cell? ⟨lb, lo + k, none⟩ = some (.string x) ∧ W.cell? ⟨w.heap.size, 2, none⟩ = some (.string sp) ∧ W.cell? ⟨w.heap.size, 3, none⟩ = some (.slice (some ⟨lb, lo, none⟩) fr.length sc)) (by kernel_rfl) (by kernel_rfl) (by kernel_rfl) (by kernel_rfl) (Nat.le_of_ble_eq_true rfl) ⟨x0, d2, d3⟩ ?_
      refine plan_rd (A := ?A1) ?h1 ?h2
      case h1 =>
        rintro w' ⟨z0, z2, z3⟩ K hK
        simp only [opsAt, List.filterMap_cons, List.filterMap_nil, List.getElem?_toArray, List.getElem?_cons_succ, List.getElem?_cons_zero]
        repeat still_step
        refine wpStill_nil ?_
        exact hK
      have KD := Lib.hid KC.out.drew
      have OD := Lib.hid (own_chg HO.out (chg_drew (fun _ => False) wr) (fun _ _ e => e))
      have hbd : w1.heap.size ≤ wr.drew.heap.size := KD.out.size
      clear KC HO x0 d2 d3 hb4
      generalize wr.drew = wd at *
      have DDA := Lib.hid (DD.out _ (KD.out.alloc (.cells #[.string x, .string sp] 69)))
      refine plan_ef rfl ?_
      go_wp2_with fail
      refine ⟨DDA.out, ?_⟩
      refine plan_ef rfl ?_
      refine wpList_push rfl (.tmp 13) (.tmp 22) 22 rfl 69 2 32 Tryz.underlying22 Tryz.elemRule w1.heap.size _ _ _ rfl (OD.out.alloc _) _ [.string x, .string sp] 69 (0, 0) rfl (obj_alloc_new _ _) rfl ?a1 ?a2 ?a3 ?a4 ?a5
      case a1 => intro u hu; simp at hu; rcases hu with rfl | rfl <;> rfl
      case a2 => omega
      case a3 => unfold maxLen; omega
      case a4 => rw [World.size_alloc]; omega
      intro v5 w5 o5 g5
      obtain ⟨a5, c5, rfl⟩ := own_shape o5
      have kk := (chg_alloc (fun j => (Value.slice ab (T k).length cb).ownBlock = some j) wd (.cells #[.string x, .string sp] 69)).grown g5 (fun j hj _ => hj)
      have O5 := Lib.hid (show w5.ownsRow w1.heap.size 69 2 (.slice a5 ((T k).length + 1) c5) (T (k + 1)).length (ruleCells (T (k + 1))) from by
        rw [NX.out, List.length_append, ruleCells_append]; exact o5)
      have K5 := Lib.hid (show Chg (fun _ => False) w1 w5 from KD.out.next kk (fun j hj e => by have := (OD.out.lt j e).1; omega))
      have Z5 := DD.out w5 K5.out
      clear kk o5 g5 OD KD
      go_wp2_with fail
      refine ⟨Z5, ?_⟩
      refine plan_rd (A := ?A2) ?h3 ?h4
      case h3 =>
        rintro w' ⟨z0, z2, z3⟩ K hK
        simp only [opsAt, List.filterMap_cons, List.filterMap_nil, List.getElem?_toArray, List.getElem?_cons_succ, List.getElem?_cons_zero]
        repeat still_step
        refine wpStill_nil ?_
        exact hK
      refine plan_nil ?_
      go_wp2
      go_roundw
      case rel =>
        exact ⟨k + 1, by omega, by go_num, Lib.hid ⟨O5.out, K5.out⟩⟩
      case measure => simp [intOf]; omega
    · obtain rfl : k = fr.length := by omega
      go_wp2
      go_ret
      exact ⟨_, rfl, own_base HO.out (by have := HS1.out; omega), KA.out.trans KC.out⟩
set_option maxRecDepth 100000 in
theorem rhas12_any (w : World) (oa va : Option Addr) (oc vn vc : Nat) (G : Nat → Prop) (l : List Int) (i : Int) (hv : IntsAt w (.slice oa l.length oc) G l) :
    Calls Tryz.prog 23 #[.agg #[.slice oa l.length oc, .slice va vn vc], .int .i64 i] w fun e w' => e = .returned (.bool (decide (i ∈ l))) ∧ Chg (fun _ => False) w w' := by
  have KA := Lib.hid (chg_alloc (fun _ => False) w (.cells #[.slice oa l.length oc, .slice va vn vc] 50))
  have OA := Lib.hid (obj_alloc_new w (.cells #[.slice oa l.length oc, .slice va vn vc] 50))
  have c0 := cell_of (o := 0) OA.out rfl
  have HV := Lib.hid (hv.chg KA.out (fun _ _ e => e))
  obtain ⟨_, _, e1, hl0, _⟩ := hv
  cases e1
  unfold maxLen at hl0
  have YES := Lib.hid (fun (j : Nat) x (hx : l[j]? = some x) (e : x = i) => show decide (i ∈ l) = true from decide_eq_true (e ▸ List.mem_of_getElem? hx))
  have NOT := Lib.hid (fun (q : ∀ (j : Nat) x, l[j]? = some x → x ≠ i) => show decide (i ∈ l) = false from decide_eq_false (fun h => by
    obtain ⟨j, hj⟩ := List.mem_iff_getElem?.1 h
    exact q j i hj rfl))
  generalize decide (i ∈ l) = r at *
  go_enter Tryz.func23, Tryz.ntmps23
  go_wp2
  generalize w.alloc (.cells #[.slice oa l.length oc, .slice va vn vc] 50) = w1 at *
  go_loopw [5] (fun iv wr => ∃ k : Nat, k ≤ l.length ∧ iv = .int .i64 k ∧ Hid ((∀ (j : Nat) x, j < k → l[j]? = some x → x ≠ i) ∧ w1 = wr)) (fun iv _ => l.length - (intOf iv).toNat)
  case atStart => exact ⟨0, by omega, rfl, Lib.hid ⟨fun j x hj => by omega, rfl⟩⟩
  case round =>
    obtain ⟨k, hk, rfl, HI⟩ := hrel
    obtain ⟨hno, rfl⟩ := HI.out
    have NO := Lib.hid hno
    clear HI hno
    by_cases hlt : k < l.length
    · obtain ⟨x, hx⟩ : ∃ x, l[k]? = some x := ⟨_, List.getElem?_eq_getElem hlt⟩
      obtain ⟨_, _, e1, _, hcl⟩ := HV.out
      cases e1
      obtain ⟨g, o, rfl, _, x0⟩ := hcl k x hx
      clear hcl
      by_cases hxi : x = i
      · have g1 : (x == i) = true := beq_iff_eq.2 hxi
        have R := Lib.hid (YES.out k x hx hxi)
        clear hxi hx YES NOT
        go_wp2
        go_ret
        exact ⟨by rw [R.out]; rfl, KA.out⟩
      · have g1 : (x == i) = false := beq_eq_false_iff_ne.2 hxi
        have N2 := Lib.hid (show ∀ (j : Nat) y, j < k + 1 → l[j]? = some y → y ≠ i from fun j y hj hy => by
          rcases Nat.lt_or_ge j k with q | q
          · exact NO.out j y q hy
          · obtain rfl : j = k := by omega
            rw [hx] at hy; cases hy; exact hxi)
        clear hxi hx
        go_wp2
        go_roundw
        case rel => exact ⟨k + 1, by omega, by go_num, Lib.hid ⟨N2.out, by first | trivial | rfl⟩⟩
        case measure => simp [intOf]; omega
    · obtain rfl : k = l.length := by omega
      have R := Lib.hid (NOT.out (fun j x hj => NO.out j x (List.getElem?_eq_some_iff.1 hj).1 hj))
      clear YES NOT
      go_wp2
      go_ret
      exact ⟨by rw [R.out]; rfl, KA.out⟩
end Go.Proofs.YtjifdfhibkipnaaGreat

namespace Go.Proofs.YtjifdfhibkipnaaGreat
open Go.RowKit Go.Maps

theorem of_sgD (w : World) (k : Nat) (hk : k < 65536) : Calls Tryz.prog 28 #[.slice (some ⟨w.heap.size, 0, none⟩) 1 1] (w.alloc (.cells #[.int .u16 (k : Int)] 56)) fun e w' => e = .returned (.string (atomW k)) ∧ Chg (fun _ => False) w w' :=
  of_one w k k rfl (atomW k) hk rfl
set_option maxHeartbeats 8000000 in
set_option maxRecDepth 100000 in
theorem rback12_any (w : World) (ra : Option Addr) (R : List BRul) (rc : Nat) (b : Int) (c : BCert) (sa : Option Addr) (sc : Nat) (Gc : Nat → Prop)
    (hR : RulesAt w (.slice ra R.length rc) (· < w.heap.size) R) (hf : (R.length ≤ 400 ∧ ∀ r ∈ R, r.1.size ≤ 400) ∨ 400 < R.length) (h47 : Fit47 R) (hc : CertAt w (.slice sa c.fr.length sc) Gc c) (hsz : c.sp.size ≤ 140737488355328) (hfs : Sizes c.fr) :
    Calls Tryz.prog 50 #[.slice ra R.length rc, certV c (.slice sa c.fr.length sc), .int .i64 b] w (BackedRes w (backedE R b c)) := by
  have hsg := hc.sg
  have OFW := Lib.hid (fun w => of_sgD w c.sg hsg)
  have ASK := Lib.hid (fun w1 (q : Chg (fun _ => False) w w1) x (hx : x.size ≤ 140737488355328) => rleads_any (w := w1) (v := .slice ra R.length rc) (R := R) (s := x) (b := b) ⟨rules_up hR q, hf, by unfold maxLen; omega⟩ h47 hx (atomW c.sg))
  have CH := Lib.hid (fun w1 (q : Chg (fun _ => False) w w1) => rcheck_any w1 c sa sc Gc (hc.chg q (fun _ _ e => e)) hsz hfs)
  have HS := Lib.hid hc.set.at_
  have SZ := Lib.hid hfs
  obtain ⟨_, _, e0, hl0, _⟩ := hc.set.at_
  cases e0
  obtain ⟨_, _, e0, hr0, _⟩ := hR
  cases e0
  have BY := Lib.hid (show certB c = true → backedE R b c = backE R b (atomW c.sg) c.fr from fun q => if_pos q)
  have BN := Lib.hid (show certB c = false → backedE R b c = (false, 2) from fun q => if_neg (by rw [q]; decide))
  unfold BackedRes
  unfold CheckRes at CH
  generalize backedE R b c = res at *
  generalize certB c = cb at *
  generalize atomW c.sg = tw at *
  obtain ⟨kind, sg, sp, fr, f, t, num⟩ := c
  unfold certV at CH ⊢
  simp only at CH HS SZ OFW BY hsz hl0 hsg ⊢
  unfold maxLen at hl0 hr0
  have KA := Lib.hid (chg_alloc (fun _ => False) w (.cells #[.int .i64 kind, .int .u16 (sg : Int), .string sp, .slice sa fr.length sc, .int .i64 f, .int .i64 t, .int .i64 num] 60))
  have OA := Lib.hid (obj_alloc_new w (.cells #[.int .i64 kind, .int .u16 (sg : Int), .string sp, .slice sa fr.length sc, .int .i64 f, .int .i64 t, .int .i64 num] 60))
  have CH1 := Lib.hid (CH.out _ KA.out)
  have p0 := cell_of (o := 0) OA.out rfl
  have p1 := cell_of (o := 1) OA.out rfl
  have p2 := cell_of (o := 2) OA.out rfl
  have p3 := cell_of (o := 3) OA.out rfl
  have p4 := cell_of (o := 4) OA.out rfl
  have p5 := cell_of (o := 5) OA.out rfl
  have p6 := cell_of (o := 6) OA.out rfl
  clear hc hsz hfs hf h47 CH
  go_enter Tryz.func50, Tryz.ntmps50
  go_wp2_with fail
  generalize hw1 : w.alloc (.cells #[.int .i64 kind, .int .u16 (sg : Int), .string sp, .slice sa fr.length sc, .int .i64 f, .int .i64 t, .int .i64 num] 60) = w1 at *
  clear hw1 p0 p1 p2 p3 p4 p5 p6
  (with_reducible refine (CH1.out).mono ?_)
  rintro e w2 ⟨⟨k, rfl, hk⟩, k2⟩
  have K2 := Lib.hid (KA.out.trans k2)
  have O2 := Lib.hid (k2.obj (fun e => e) OA.out)
  clear k2 KA OA CH1
  cases cb with
  | false =>
    have g0 : (k != 0) = true := by rw [bne_iff_ne]; exact fun q => by have := hk.1 q; cases this
    have RF := Lib.hid (BN.out rfl)
    clear hk BY BN
    go_wp2
    go_ret2
    exact ⟨by rw [RF.out]; rfl, K2.out⟩
  | true =>
  obtain rfl : k = 0 := hk.2 rfl
  have BE := Lib.hid (BY.out rfl)
  clear hk BY BN
  go_wp2
  go_loopw [8] (fun iv wr => ∃ k : Nat, k ≤ fr.length ∧ iv = .int .i64 k ∧ Hid (backE R b tw fr = backE R b tw (fr.drop k) ∧ Chg (fun _ => False) w2 wr)) (fun iv _ => fr.length - (intOf iv).toNat)
  case atStart => exact ⟨0, by omega, rfl, Lib.hid ⟨by rw [List.drop_zero], Chg.refl _ _⟩⟩
  case round =>
    obtain ⟨k, hk, rfl, HI⟩ := hrel
    have OR := Lib.hid (HI.out.2.obj (fun e => e) O2.out)
    have KR := Lib.hid (K2.out.trans HI.out.2)
    have KC := Lib.hid HI.out.2
    have BI := Lib.hid HI.out.1
    have q1 := cell_of (o := 1) OR.out rfl
    have q3 := cell_of (o := 3) OR.out rfl
    clear HI
    by_cases hlt : k < fr.length
    rotate_left
    · obtain rfl : k = fr.length := by omega
      have RT := Lib.hid (show res = (true, 0) by rw [BE.out, BI.out, List.drop_length]; rfl)
      go_wp2
      go_ret2
      exact ⟨by rw [RT.out]; rfl, KR.out⟩
    obtain ⟨x, hx⟩ : ∃ x, fr[k]? = some x := ⟨_, List.getElem?_eq_getElem hlt⟩
    have BD := Lib.hid (back_drop (R := R) (b := b) (t := tw) hx)
    have hxs := SZ.out x (List.mem_of_getElem? hx)
    obtain ⟨_, _, e1, _, hcl⟩ := HS.out
    cases e1
    obtain ⟨lb, lo, rfl, _, x00, _⟩ := hcl k x hx
    have x0 := cell_chg KR.out (fun e => e) x00
    have DD := Lib.hid (fun wd (q : Chg (fun _ => False) wr wd) => And.intro (cell_chg q (fun e => e) x0) (And.intro (cell_chg q (fun e => e) q1) (cell_chg q (fun e => e) q3)))
    clear hcl hx x00
    go_wp2_with fail
    refine wp_region_plan (N := 41) [.rd [0, 1, 2, 3, 4, 5, 6, 7, 10], .ef 8, .ef 9, .ef 11, .rd [12, 13, 14, 15, 16]] (fun W => W.cell? ⟨lb, lo + k, none⟩ = some (.string x) ∧ W.cell? ⟨w.heap.size, 1, none⟩ = some (.int .u16 (sg : Int)) ∧ W.cell? ⟨w.heap.size, 3, none⟩ = some (.slice (some ⟨lb, lo, none⟩) fr.length sc)) (by kernel_rfl) (by kernel_rfl) (by kernel_rfl) (by kernel_rfl) (Nat.le_of_ble_eq_true rfl) ⟨x0, q1, q3⟩ ?_
    refine plan_rd (A := ?A1) ?h1 ?h2
    case h1 =>
      rintro w' ⟨z0, z1, z3⟩ K hK
      simp only [opsAt, List.filterMap_cons, List.filterMap_nil, List.getElem?_toArray, List.getElem?_cons_succ, List.getElem?_cons_zero]
      repeat still_step
      refine wpStill_nil ?_
      exact hK
    have KD := Lib.hid KC.out.drew
    have KRD := Lib.hid KR.out.drew
    have DW := Lib.hid (chg_drew (fun _ => False) wr)
    clear x0 q1 q3 KC KR OR
    generalize wr.drew = wd at *
    have DDA := Lib.hid (DD.out _ (DW.out.alloc (.cells #[.int .u16 (sg : Int)] 56)))
    have OF := Lib.hid (OFW.out wd)
    clear OFW
    refine plan_ef rfl ?_
    go_wp2_with fail
    refine ⟨DDA.out, ?_⟩
    refine plan_ef rfl ?_
    go_wp2_with fail
    (with_reducible refine (OF.out).mono ?_)
    rintro e w5 ⟨rfl, k5⟩
    have K5 := Lib.hid (KD.out.trans k5)
    have KR5 := Lib.hid (KRD.out.trans k5)
    have DW5 := Lib.hid (DW.out.trans k5)
    have Z5 := Lib.hid (DD.out _ DW5.out)
    have LD := Lib.hid (ASK.out _ KR5.out x hxs)
    clear ASK k5 KD KRD DW OF DDA
    generalize tellB R x tw b = tb at *
    generalize rowErr R x b = re at *
    go_wp2_with fail
    refine ⟨Z5.out, ?_⟩
    refine plan_ef rfl ?_
    go_wp2_with fail
    (with_reducible refine (LD.out).mono ?_)
    rintro e w6 ⟨rfl, k6⟩
    have K6 := Lib.hid (K5.out.trans k6)
    have KR6 := Lib.hid (KR5.out.trans k6)
    have Z6 := Lib.hid (DD.out _ (DW5.out.trans k6))
    clear k6 K5 KR5 DW5 Z5 LD DD
    go_wp2_with fail
    refine ⟨Z6.out, ?_⟩
    refine plan_rd (A := ?A2) ?h3 ?h4
    case h3 =>
      rintro w' ⟨z0, z1, z3⟩ K hK
      simp only [opsAt, List.filterMap_cons, List.filterMap_nil, List.getElem?_toArray, List.getElem?_cons_succ, List.getElem?_cons_zero]
      repeat still_step
      refine wpStill_nil ?_
      exact hK
    refine plan_nil ?_
    clear Z6
    by_cases hre : re = 0
    rotate_left
    · have g0 : (re != 0) = true := by rw [bne_iff_ne]; exact hre
      have RE := Lib.hid (show res = (false, re) by rw [BE.out, BI.out, BD.out, if_neg hre])
      clear hre BD BI BE
      go_wp2
      go_ret2
      exact ⟨by rw [RE.out]; rfl, KR6.out⟩
    subst hre
    rw [if_pos rfl] at BD
    cases tb with
    | false =>
      have RE := Lib.hid (show res = (false, 0) by rw [BE.out, BI.out, BD.out]; rfl)
      clear BD BI BE
      go_wp2
      go_ret2
      exact ⟨by rw [RE.out]; rfl, KR6.out⟩
    | true =>
      have BN := Lib.hid (show backE R b tw fr = backE R b tw (fr.drop (k + 1)) by rw [BI.out, BD.out]; rfl)
      clear BD BI
      go_wp2
      go_roundw
      case rel => exact ⟨k + 1, by omega, by go_num, Lib.hid ⟨BN.out, K6.out⟩⟩
      case measure => simp [intOf]; omega
end Go.Proofs.YtjifdfhibkipnaaGreat
