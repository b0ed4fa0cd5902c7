/-
  Package accept: refused, Has; cert.Rules; slices.Clone of rules.
-/
import Derived.Test.YtjifdfhibkipnaaGreatUBack
namespace Go.Proofs.YtjifdfhibkipnaaGreat
open Go.RowKit Go.Maps

/-! rows of certificates -/
def CertsAt (w : World) (v : Value) (G : Nat → Prop) (P : List (BCert × Value)) : Prop :=
  ∃ la cap, v = .slice la P.length cap ∧ P.length ≤ maxLen ∧ ∀ (j : Nat) p, P[j]? = some p → ∃ g o sa sc, la = some ⟨g, o, none⟩ ∧ G g ∧ p.2 = .slice sa p.1.fr.length sc ∧ w.cell? ⟨g, o + j * 7, none⟩ = some (.int .i64 p.1.kind) ∧
    w.cell? ⟨g, o + j * 7 + 1, none⟩ = some (.int .u16 (p.1.sg : Int)) ∧ w.cell? ⟨g, o + j * 7 + 2, none⟩ = some (.string p.1.sp) ∧ w.cell? ⟨g, o + j * 7 + 3, none⟩ = some (.slice sa p.1.fr.length sc) ∧
    w.cell? ⟨g, o + j * 7 + 4, none⟩ = some (.int .i64 p.1.f) ∧ w.cell? ⟨g, o + j * 7 + 5, none⟩ = some (.int .i64 p.1.t) ∧ w.cell? ⟨g, o + j * 7 + 6, none⟩ = some (.int .i64 p.1.n) ∧ CertAt w (.slice sa p.1.fr.length sc) G p.1
theorem CertsAt.chg {S : Nat → Prop} {w w' : World} {v : Value} {G : Nat → Prop} {P : List (BCert × Value)} (h : CertsAt w v G P) (hc : Chg S w w') (hs : ∀ k, G k → ¬ S k) : CertsAt w' v G P := by
  obtain ⟨la, cap, h1, h2, h3⟩ := h
  exact ⟨la, cap, h1, h2, fun j x hj => by
    obtain ⟨g, o, sa, sc, q1, q2, q3, q4, q5, q6, q7, q8, q9, q10, q11⟩ := h3 j x hj
    have n := hs g q2
    exact ⟨g, o, sa, sc, q1, q2, q3, cell_chg hc n q4, cell_chg hc n q5, cell_chg hc n q6, cell_chg hc n q7, cell_chg hc n q8, cell_chg hc n q9, cell_chg hc n q10, q11.chg hc hs⟩⟩
theorem CertAt.up {w : World} {sv : Value} {G G' : Nat → Prop} {c : BCert} (h : CertAt w sv G c) (hg : ∀ k, G k → G' k) : CertAt w sv G' c := ⟨h.set.up hg, h.sp, h.sg⟩
theorem CertsAt.up {w : World} {v : Value} {G G' : Nat → Prop} {P : List (BCert × Value)} (h : CertsAt w v G P) (hg : ∀ k, G k → G' k) : CertsAt w v G' P := by
  obtain ⟨la, cap, h1, h2, h3⟩ := h
  exact ⟨la, cap, h1, h2, fun j x hj => by
    obtain ⟨g, o, sa, sc, q1, q2, q3, q4, q5, q6, q7, q8, q9, q10, q11⟩ := h3 j x hj
    exact ⟨g, o, sa, sc, q1, hg _ q2, q3, q4, q5, q6, q7, q8, q9, q10, q11.up hg⟩⟩
def certsOf (P : List (BCert × Value)) : List BCert := P.map (·.1)
theorem certsOf_get {P : List (BCert × Value)} {k : Nat} {p : BCert × Value} (h : P[k]? = some p) : (certsOf P)[k]? = some p.1 := by unfold certsOf; rw [List.getElem?_map, h]; rfl
theorem certsOf_length (P : List (BCert × Value)) : (certsOf P).length = P.length := by unfold certsOf; rw [List.length_map]
theorem need_succ {C : List BCert} {k : Nat} {c : BCert} (h : C[k]? = some c) : needE (C.take (k + 1)) = needE (C.take k) + c.fr.length := by
  rw [List.take_add_one, h]
  unfold needE
  simp
theorem refE_bad {C : List BCert} {n k : Nat} {b : Int} {c : BCert} (h : C[k]? = some c) (hc : certB c = false) : refE n C b = 2 := by
  unfold refE
  rw [if_neg]
  intro q
  rw [List.all_eq_true] at q
  rw [q c (List.mem_of_getElem? h)] at hc
  cases hc
theorem refE_good {C : List BCert} {n : Nat} {b : Int} (h : ∀ (j : Nat) c, j < C.length → C[j]? = some c → certB c = true) : refE n C b = if 400 < n + needE C then 3 else if b < 1 ∨ 5000 < b then 1 else 0 := by
  unfold refE
  rw [if_pos]
  rw [List.all_eq_true]
  intro c hc
  obtain ⟨j, hj⟩ := List.mem_iff_getElem?.1 hc
  exact h j c (List.getElem?_eq_some_iff.1 hj).1 hj
theorem certB_len {c : BCert} (h : certB c = true) : 1 ≤ c.fr.length ∧ c.fr.length ≤ 16 := by
  obtain ⟨y, z, _⟩ := of_decide_eq_true (certB_may h).fr
  rw [lists_len] at y z
  exact ⟨y, z⟩
def RefRes (w : World) (k : Int) (e : Ending) (w' : World) : Prop := e = .returned (.int .i64 k) ∧ Chg (fun _ => False) w w'
set_option maxHeartbeats 4000000 in
set_option maxRecDepth 100000 in
theorem refused_any (w : World) (ra : Option Addr) (R : List BRul) (rc : Nat) (v : Value) (P : List (BCert × Value)) (b : Int) (G : Nat → Prop) (hv : CertsAt w v G P) (hR : R.length ≤ 140737488355328) (hP : P.length ≤ 1000) :
    Calls Tryz.prog 54 #[.slice ra R.length rc, v, .int .i64 b] w (RefRes w (refE R.length (certsOf P) b)) := by
  have HV := Lib.hid hv
  obtain ⟨la, cap, rfl, _, _⟩ := hv
  have BAD := Lib.hid (fun k c => @refE_bad (certsOf P) R.length k b c)
  have GOOD := Lib.hid (@refE_good (certsOf P) R.length b)
  have CG := Lib.hid (fun k p (h : P[k]? = some p) => certsOf_get h)
  have CL := Lib.hid (certsOf_length P)
  unfold RefRes
  generalize refE R.length (certsOf P) b = res at *
  generalize certsOf P = C at *
  generalize hRl : R.length = rl at *
  go_enter Tryz.func54, Tryz.ntmps54
  go_wp2
  go_loopw [7, 14] (fun nv iv wr => ∃ k n : Nat, k ≤ P.length ∧ n ≤ rl + 16 * k ∧ nv = .int .i64 n ∧ iv = .int .i64 k ∧ Hid (n = rl + needE (C.take k) ∧ (∀ (j : Nat) c, j < k → C[j]? = some c → certB c = true) ∧ Chg (fun _ => False) w wr)) (fun _ iv _ => P.length - (intOf iv).toNat)
  case atStart => exact ⟨0, rl, by omega, by omega, rfl, rfl, Lib.hid ⟨by simp [needE], fun j c hj => by omega, Chg.refl _ _⟩⟩
  case round =>
    obtain ⟨k, n, hk, hn, rfl, rfl, HI⟩ := hrel
    obtain ⟨hne, hall, hkc⟩ := HI.out
    have NE := Lib.hid hne
    have ALL := Lib.hid hall
    have KC := Lib.hid hkc
    clear HI hne hall hkc
    by_cases hlt : k < P.length
    rotate_left
    · obtain rfl : k = P.length := by omega
      have R0 := GOOD.out (fun j c hj => ALL.out j c (by rw [← CL.out]; exact hj))
      rw [show rl + needE C = n by rw [NE.out, List.take_of_length_le (by rw [CL.out]; exact Nat.le_refl _)]] at R0
      have RR := Lib.hid R0
      clear R0
      by_cases h4 : 400 < n
      · have g4 : decide (400 < (n : Int)) = true := decide_eq_true (by omega)
        have RV := Lib.hid (show res = 3 by rw [RR.out, if_pos h4])
        go_wp2
        go_ret
        exact ⟨by rw [RV.out]; rfl, KC.out⟩
      have g4 : decide (400 < (n : Int)) = false := decide_eq_false (by omega)
      by_cases h5 : b < 1
      · have g5 : decide (b < 1) = true := decide_eq_true h5
        have RV := Lib.hid (show res = 1 by rw [RR.out, if_neg h4, if_pos (.inl h5)])
        clear RR h4 h5
        go_wp2
        go_ret
        exact ⟨by rw [RV.out]; rfl, KC.out⟩
      have g5 : decide (b < 1) = false := decide_eq_false h5
      by_cases h6 : 5000 < b
      · have g6 : decide (5000 < b) = true := decide_eq_true h6
        have RV := Lib.hid (show res = 1 by rw [RR.out, if_neg h4, if_pos (.inr h6)])
        clear RR h4 h5 h6
        go_wp2
        go_ret
        exact ⟨by rw [RV.out]; rfl, KC.out⟩
      have g6 : decide (5000 < b) = false := decide_eq_false h6
      have RV := Lib.hid (show res = 0 by rw [RR.out, if_neg h4, if_neg (by omega)])
      clear RR h4 h5 h6
      go_wp2
      go_ret
      exact ⟨by rw [RV.out]; rfl, KC.out⟩
    obtain ⟨⟨c, sv⟩, hp⟩ : ∃ p, P[k]? = some p := ⟨_, List.getElem?_eq_getElem hlt⟩
    obtain ⟨_, _, e1, _, hcl⟩ := HV.out.chg KC.out (fun _ _ e => e)
    cases e1
    obtain ⟨g, o, sa, sc, rfl, hgg, hsv, c0, c1, c2, c3, c4, c5, c6, hca⟩ := hcl k _ hp
    simp only at hsv
    subst hsv
    have HP := Lib.hid (CG.out _ _ hp)
    clear hcl hp hgg
    simp only at c0 c1 c2 c3 c4 c5 c6 hca HP
    have ka := chg_alloc (fun _ => False) wr (.cells #[.int .i64 c.kind, .int .u16 (c.sg : Int), .string c.sp, .slice sa c.fr.length sc, .int .i64 c.f, .int .i64 c.t, .int .i64 c.n] 60)
    have oa := obj_alloc_new wr (.cells #[.int .i64 c.kind, .int .u16 (c.sg : Int), .string c.sp, .slice sa c.fr.length sc, .int .i64 c.f, .int .i64 c.t, .int .i64 c.n] 60)
    have CH := check_any (wr.alloc (.cells #[.int .i64 c.kind, .int .u16 (c.sg : Int), .string c.sp, .slice sa c.fr.length sc, .int .i64 c.f, .int .i64 c.t, .int .i64 c.n] 60)) c sa sc G (hca.chg ka (fun _ _ e => e))
    have HB := Lib.hid (@certB_len c)
    have CB := Lib.hid (fun (j : Nat) d (hj : j < k + 1) (hd : C[j]? = some d) (q : certB c = true) => (show certB d = true by
      rcases Nat.lt_or_ge j k with h | h
      · exact ALL.out j d h hd
      · obtain rfl : j = k := by omega
        rw [HP.out] at hd; cases hd; exact q))
    have BD := Lib.hid (BAD.out k c HP.out)
    have NS := Lib.hid (need_succ HP.out)
    unfold CheckRes at CH
    generalize certB c = cb at *
    obtain ⟨kind, sg, sp, fr, f, t, num⟩ := c
    unfold certV at CH
    simp only at c0 c1 c2 c3 c4 c5 c6 CH ka oa NS HB
    have CH := Lib.hid CH
    have KA := Lib.hid (KC.out.trans ka)
    have OA := Lib.hid oa
    clear ka oa hca HP
    go_wp2_with fail
    generalize wr.alloc (.cells #[.int .i64 kind, .int .u16 (sg : Int), .string sp, .slice sa fr.length sc, .int .i64 f, .int .i64 t, .int .i64 num] 60) = w1 at *
    (with_reducible refine (CH.out).mono ?_)
    rintro e w2 ⟨⟨x, rfl, hx⟩, k2⟩
    have O2 := Lib.hid (k2.obj (fun e => e) OA.out)
    have K2 := Lib.hid (KA.out.trans k2)
    clear CH k2 KA OA c0 c1 c2 c3 c4 c5 c6
    cases cb with
    | false =>
      have g1 : (x != 0) = true := by rw [bne_iff_ne]; intro e; exact absurd (hx.1 e) (by decide)
      have RV := Lib.hid (BD.out rfl)
      clear hx
      go_wp2
      go_ret
      exact ⟨by rw [RV.out]; rfl, K2.out⟩
    | true =>
      have g1 : (x != 0) = false := by rw [hx.2 rfl]; rfl
      have d3 := cell_of (o := 3) O2.out rfl
      have hfl := (HB.out rfl).2
      have w1' : IntKind.i64.wrap ((n : Int) + (fr.length : Int)) = ((n + fr.length : Nat) : Int) := by rw [IntKind.wrap_i64]; omega
      clear hx
      go_wp2
      go_roundw
      case rel => exact ⟨k + 1, n + fr.length, by omega, by omega, by first | trivial | rfl | go_num, by first | trivial | go_num, Lib.hid ⟨by rw [NS.out, NE.out]; omega, fun j d hj hd => CB.out j d hj hd (by trivial), K2.out⟩⟩
      case measure => simp [intOf]; omega
theorem crules_length (c : BCert) : (crules c).length = c.fr.length := by unfold crules; rw [List.length_map]
def crulesTo (c : BCert) (k : Nat) : List BRul := (c.fr.take k).map fun w => (w, c.sp)
theorem crulesTo_succ {c : BCert} {k : Nat} {x : ByteArray} (h : c.fr[k]? = some x) : crulesTo c (k + 1) = crulesTo c k ++ [(x, c.sp)] := by
  unfold crulesTo
  rw [List.take_add_one, h, List.map_append]; rfl
theorem crulesTo_length {c : BCert} {k : Nat} (h : k ≤ c.fr.length) : (crulesTo c k).length = k := by
  unfold crulesTo; rw [List.length_map, List.length_take, Nat.min_eq_left h]
set_option maxHeartbeats 2000000 in
set_option maxRecDepth 100000 in
theorem crules_any (w : World) (c : BCert) (sa : Option Addr) (sc : Nat) (G : Nat → Prop) (h : CertAt w (.slice sa c.fr.length sc) G c) (hl : c.fr.length ≤ 1000) :
    Calls Tryz.prog 37 #[certV c (.slice sa c.fr.length sc)] w fun e w' => ∃ v, e = .returned v ∧ w'.ownsRow w.heap.size 69 2 v (crules c).length (ruleCells (crules c)) ∧ Chg (fun _ => False) w w' := by
  have ka := chg_alloc (fun _ => False) w (.cells #[.int .i64 c.kind, .int .u16 (c.sg : Int), .string c.sp, .slice sa c.fr.length sc, .int .i64 c.f, .int .i64 c.t, .int .i64 c.n] 60)
  have oa := obj_alloc_new w (.cells #[.int .i64 c.kind, .int .u16 (c.sg : Int), .string c.sp, .slice sa c.fr.length sc, .int .i64 c.f, .int .i64 c.t, .int .i64 c.n] 60)
  have HS := Lib.hid (h.set.at_.chg ka (fun _ _ e => e))
  have SU := Lib.hid (fun k x => @crulesTo_succ c k x)
  have LE := Lib.hid (fun k => @crulesTo_length c k)
  have FIN := Lib.hid (show crules c = crulesTo c c.fr.length by unfold crules crulesTo; rw [List.take_length])
  have Z := Lib.hid (show crulesTo c 0 = [] by unfold crulesTo; simp)
  rw [FIN.out]
  generalize crulesTo c = T at *
  obtain ⟨kind, sg, sp, fr, f, t, n⟩ := c
  unfold certV
  simp only at ka oa HS SU LE hl ⊢
  have c2 := cell_of (o := 2) oa rfl
  have c3 := cell_of (o := 3) oa rfl
  have hs1 : w.heap.size < (w.alloc (.cells #[.int .i64 kind, .int .u16 (sg : Int), .string sp, .slice sa fr.length sc, .int .i64 f, .int .i64 t, .int .i64 n] 60)).heap.size := by rw [World.size_alloc]; omega
  have KA := Lib.hid ka
  have OA := Lib.hid oa
  obtain ⟨ri, rz, hri, hrz, q1, q2, q3, q4⟩ := Tryz.elemRule
  clear ka oa h FIN
  go_enter Tryz.func37, Tryz.ntmps37
  go_wp2_with (at_make; refine wpList_make_own _ rfl (.const (.int .i64 0)) (.tmp 8) 22 rfl _ 69 ri rz 2 Tryz.underlying22 hri hrz q1 .i64 .i64 (fr.length : Int) fr.length rfl rfl rfl ?b2 ?b3 (Nat.le_refl _) ?next)
  case b2 => rw [q2]; omega
  case b3 => unfold maxLen; omega
  case next =>
    intro w3 own3 g3
    generalize hw1 : w.alloc (.cells #[.int .i64 kind, .int .u16 (sg : Int), .string sp, .slice sa fr.length sc, .int .i64 f, .int .i64 t, .int .i64 n] 60) = w1 at *
    have hs2 : w1.heap.size = w.heap.size + 1 := by rw [← hw1, World.size_alloc]
    clear hw1
    have K3 := Lib.hid (show Chg (fun _ => False) w1 w3 from (Chg.of_grown g3).mono (fun _ _ e => by cases e))
    have O3 := Lib.hid own3
    have HS3 := Lib.hid (HS.out.chg K3.out (fun _ _ e => e))
    have OA3 := Lib.hid (K3.out.obj (fun e => e) OA.out)
    have e3 := cell_of (o := 3) OA3.out rfl
    clear own3 g3 c2 c3
    go_wp2_with fail
    go_loopw [3, 13] (fun v iv wr => ∃ k : Nat, k ≤ fr.length ∧ iv = .int .i64 k ∧ Hid (wr.ownsRow (w.heap.size + 1) 69 2 v (T k).length (ruleCells (T k)) ∧ Chg (fun _ => False) w1 wr)) (fun _ iv _ => fr.length - (intOf iv).toNat)
    case atStart => exact ⟨0, by omega, rfl, Lib.hid ⟨by rw [Z.out]; exact O3.out, K3.out⟩⟩
    case round =>
      obtain ⟨k, hk, rfl, HI⟩ := hrel
      obtain ⟨ab, cb, eb⟩ := own_shape HI.out.1
      subst eb
      have HO := Lib.hid HI.out.1
      have KC := Lib.hid HI.out.2
      have tl : (T k).length ≤ 1000 := by rw [LE.out k hk]; omega
      clear HI
      by_cases hlt : k < fr.length
      · obtain ⟨x, hx⟩ : ∃ x, fr[k]? = some x := ⟨_, List.getElem?_eq_getElem hlt⟩
        obtain ⟨_, _, e1, _, hcl⟩ := HS.out.chg KC.out (fun _ _ e => e)
        cases e1
        obtain ⟨lb, lo, rfl, _, x0, hxs⟩ := hcl k x hx
        have NX := Lib.hid (SU.out k x hx)
        have d2 := cell_of (o := 2) (KC.out.obj (fun e => e) OA.out) rfl
        have hb4 : w1.heap.size ≤ wr.heap.size := KC.out.size
        clear hcl hx e3
        go_wp2_with (at_builtin; refine wpList_push rfl (.tmp 17) (.tmp 22) 22 rfl 69 2 32 Tryz.underlying22 Tryz.elemRule (w.heap.size + 1) _ _ _ rfl (HO.out.alloc _) _ [.string x, .string sp] 69 (0, 0) rfl (obj_alloc_new _ _) rfl ?a1 ?a2 ?a3 ?a4 ?a5)
        case a1 => intro u hu; simp at hu; rcases hu with rfl | rfl <;> rfl
        case a2 => omega
        case a3 => unfold maxLen; omega
        case a4 => rw [World.size_alloc]; omega
        intro v5 w5 o5 g5
        have kk := (chg_alloc (fun j => w.heap.size + 1 ≤ j) wr (.cells #[.string x, .string sp] 69)).grown g5 (fun j hj _ => (HO.out.lt j hj).1)
        have O5 := Lib.hid (show w5.ownsRow (w.heap.size + 1) 69 2 v5 (T (k + 1)).length (ruleCells (T (k + 1))) from by
          rw [NX.out, List.length_append, ruleCells_append]; exact o5)
        have K5 := Lib.hid (show Chg (fun _ => False) w1 w5 from KC.out.next kk (fun j hj e => by omega))
        clear kk o5 g5 x0 d2 HO KC
        go_wp2
        go_roundw
        case rel => exact ⟨k + 1, by omega, by go_num, Lib.hid ⟨O5.out, K5.out⟩⟩
        case measure => simp [intOf]; omega
      · obtain rfl : k = fr.length := by omega
        go_wp2
        go_ret
        exact ⟨_, rfl, own_base HO.out (by omega), KA.out.trans KC.out⟩
set_option maxRecDepth 100000 in
theorem rclone_any (w : World) (ra : Option Addr) (R : List BRul) (rc : Nat) (G : Nat → Prop) (hv : RulesAt w (.slice ra R.length rc) G R) (hnil : ra = none → R.length = 0 ∧ rc = 0) (hl : R.length ≤ 1000) :
    Calls Tryz.prog 34 #[.slice ra R.length rc] w fun e w' => ∃ v, e = .returned v ∧ w'.ownsRow w.heap.size 69 2 v R.length (ruleCells R) ∧ Chg (fun _ => False) w w' := by
  have EQN := fun w => Lib.run_eql_slice_nil (P := Tryz.prog) w 22 _ ra R.length rc 0 0 Tryz.underlying22
  cases ra with
  | none =>
    obtain ⟨h0, rfl⟩ := hnil rfl
    have : R = [] := List.eq_nil_of_length_eq_zero h0
    subst this
    clear hv hnil h0 hl
    simp only [List.length_nil] at EQN ⊢
    go_enter Tryz.func34, Tryz.ntmps34
    go_wp2
    go_ret
    exact ⟨_, rfl, World.ownsRow_nil _ _ _ _, Chg.refl _ _⟩
  | some ad =>
    have SRC := Lib.hid (rules_src hv)
    have ONE := Lib.hid (ruleCells_one R)
    have LEN := Lib.hid (ruleCells_length R)
    clear hv hnil
    generalize ruleCells R = cells at *
    go_enter Tryz.func34, Tryz.ntmps34
    go_wp2_with (at_builtin; refine wpList_pushS rfl (.tmp 5) (.tmp 6) 22 rfl 69 2 32 Tryz.underlying22 Tryz.elemRule w.heap.size _ 0 [] rfl (own_empty _ _ _ _ (Nat.le_refl _)) (some ad) R.length rc cells rfl ?a1 ?a2 ?a3 ?a4 ?a5 ?a6 ?a7 ?nx1)
    case a1 => exact LEN.out
    case a2 =>
      intro j u hj
      obtain ⟨g', o', e, c1⟩ := SRC.out j u hj
      exact ⟨g', o', e, cell_chg (chg_alloc (fun _ => False) w _) (fun e => e) c1⟩
    case a3 => intro e; cases e
    case a4 => exact ONE.out
    case a5 => omega
    case a6 => unfold maxLen; omega
    case a7 => simp
    intro v8 w8 o8 g8
    obtain ⟨a8, c8, rfl⟩ := own_shape o8
    have k8 : Chg (fun _ => False) w w8 := (chg_alloc (fun _ => False) w (.cells #[] 69)).next (Chg.of_grown g8) (fun x hx e => by
      have e2 : w.heap.size = x := by simpa [Value.ownBlock] using e
      omega)
    have K8 := Lib.hid k8
    have O8 := Lib.hid (show w8.ownsRow w.heap.size 69 2 (.slice a8 (0 + R.length) c8) R.length cells from by simpa using o8)
    clear o8 g8 k8
    go_wp2
    go_ret
    exact ⟨_, rfl, (by have := O8.out; rw [Nat.zero_add] at this; exact this), K8.out⟩
end Go.Proofs.YtjifdfhibkipnaaGreat
