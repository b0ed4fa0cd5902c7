/-
  The reference's acl: Remove, New.
-/
import Derived.Test.YtbjdndialiddpaaARef
namespace Go.Proofs.Ytbjdndialiddpaa
open Go.RowKit Go.Maps

def restL (L : List BEnt) (x : BEnt) : List BEnt := L.filter fun y => !eqB y x
theorem restL_next {L : List BEnt} {k : Nat} {x y : BEnt} (hy : L[k]? = some y) : restL (L.take (k + 1)) x = restL (L.take k) x ++ if eqB y x = true then [] else [y] := by
  unfold restL
  rw [List.take_add_one, hy, List.filter_append]
  cases h : eqB y x <;> simp [h]
theorem restL_le (L : List BEnt) (x : BEnt) : (restL L x).length ≤ L.length := List.length_filter_le _ _
theorem restL_erase {L : List BEnt} (h : L.Nodup) (x : BEnt) : L.erase x = restL L x := by
  rw [h.erase_eq_filter]
  unfold restL
  apply List.filter_congr
  intro y _
  unfold eqB
  rw [bne, Bool.beq_eq_decide_eq]
theorem restL_len {L : List BEnt} (x : BEnt) : x ∈ L ↔ (restL L x).length ≠ L.length := by
  unfold restL
  constructor
  · intro h e
    have := List.length_filter_eq_length_iff.1 e x h
    simp [eqB] at this
  · intro h
    by_cases hx : x ∈ L
    · exact hx
    · refine absurd (List.length_filter_eq_length_iff.2 fun y hy => ?_) h
      simp only [eqB, Bool.not_eq_true', decide_eq_false_iff_not]
      rintro rfl; exact hx hy
structure RemIn (w : World) (G : Nat → Prop) (L : List BEnt) (x : BEnt) (k : Nat) (rv : Value) (E : List (Int × Value)) (wr : World) : Prop where
  row : wr.ownsRow w.heap.size 36 2 rv E.length (ecells E)
  ent : Ents wr G E (restL (L.take k) x)
  chg : Chg (fun _ => False) w wr
set_option maxHeartbeats 4000000 in
set_option maxRecDepth 100000 in
theorem rrem_any (w : World) (b : Nat) (ty : TypeId) (x : BEnt) (L : List BEnt) (ver : Nat) (a : Option Addr) (n c : Nat) (G G' : Nat → Prop) (hl : ListAt w b ty G L ver) (hver : ver ≤ 1000000) (hL : L.length ≤ 1000) (hnd : L.Nodup) (hG : ∀ k, G k → k < w.heap.size) (hv : SetAt w (.slice a n c) G' x.2) (hz : Sizes x.2) :
    Calls Try.prog 15 #[.pointer (some ⟨b, 0, none⟩), .agg #[.int .i64 x.1, .slice a n c]] w (AddRes w b ty G (remE x L) (remL x L) ver) := by
  obtain ⟨la, cap, h1, h2, hcap, hcm⟩ := hl.open
  have hbl := hl.lt
  unfold maxLen at hcm
  have k1 := chg_alloc (fun _ => False) w (.cells #[.int .i64 x.1, .slice a n c] 36)
  have K1 := Lib.hid k1
  have MAY := Lib.hid (remay_any _ x a n c G' (hv.at_.chg k1 (fun _ _ e => e)) hz)
  have X1 := Lib.hid (obj_alloc_new w (.cells #[.int .i64 x.1, .slice a n c] 36))
  have HL := Lib.hid hl
  have HG := Lib.hid hG
  have HV := Lib.hid hv
  have H1 := Lib.hid h1
  have H2 := Lib.hid h2
  clear k1 hl hv h1 h2 hz hG
  cases hm : entB x with
  | false =>
    have R : remE x L = 2 := by unfold remE; rw [hm]; rfl
    have RL : remL x L = L := by unfold remL; rw [R]; rfl
    rw [R, RL]
    rw [hm] at MAY
    clear R RL hm
    obtain ⟨op, l⟩ := x
    simp only at MAY K1 ⊢
    go_enter Try.func15, Try.ntmps15
    go_wp2_with fail
    (with_reducible refine (MAY.out).mono ?_)
    rintro e w2 ⟨rfl, k2⟩
    go_wp2
    go_ret
    exact addRes_same HL.out (by omega) (K1.out.trans k2)
  | true =>
    rw [hm] at MAY
    have HM := Lib.hid hm
    clear hm
    have SA := Lib.hid (fun w1 (k : Chg (fun _ => False) w w1) y d m e (hu : WordsAt w1 (.slice d m e) G y.2) => resame_any w1 y x d a m e n c G G' hu (HV.out.at_.chg k (fun _ _ e => e)))
    generalize hq : AddRes w b ty G (remE x L) (remL x L) ver = POST at *
    have HQ := Lib.hid hq
    clear hq
    have R10 := Lib.hid (show ¬ x ∈ L → POST = AddRes w b ty G 10 L ver from fun h => by
      have e1 : remE x L = 10 := by unfold remE; rw [if_pos HM.out, if_neg h]
      have e2 : remL x L = L := by unfold remL; rw [e1]; rfl
      rw [← HQ.out, e1, e2])
    have R0 := Lib.hid (show x ∈ L → POST = AddRes w b ty G 0 (restL L x) ver from fun h => by
      have e1 : remE x L = 0 := by unfold remE; rw [if_pos HM.out, if_pos h]
      have e2 : remL x L = restL L x := by unfold remL; rw [if_pos e1, restL_erase hnd]
      rw [← HQ.out, e1, e2])
    have RN := Lib.hid (fun k y (h : L[k]? = some y) => restL_next (x := x) h)
    have RL := Lib.hid (restL_len (L := L) x)
    have RLE := Lib.hid (restL_le L x)
    obtain ⟨op, l⟩ := x
    simp only at MAY K1 SA ⊢
    go_enter Try.func15, Try.ntmps15
    go_wp2_with fail
    (with_reducible refine (MAY.out).mono ?_)
    rintro e w2 ⟨rfl, k2⟩
    have o2 := k2.obj (fun e => e) X1.out
    have K2 := Lib.hid (K1.out.trans k2)
    have X2 := Lib.hid o2
    clear o2 k2 K1 MAY X1
    go_wp2
    go_loopw [5, 6] (fun rv iv wr => ∃ k E, k ≤ L.length ∧ iv = .int .i64 k ∧ Hid (RemIn w2 G L (op, l) k rv E wr)) (fun _ iv _ => L.length - (intOf iv).toNat)
    case atStart => exact ⟨0, [], by omega, rfl, Lib.hid ⟨own_empty _ _ _ _ (Nat.le_refl _), ⟨rfl, fun j e x h => by simp at h⟩, chg_alloc _ _ _⟩⟩
    case round =>
      obtain ⟨k, E, hk, rfl, HI⟩ := hrel
      have KR := Lib.hid (K2.out.trans HI.out.chg)
      have X3 := Lib.hid (HI.out.chg.obj (fun e => e) X2.out)
      have c0 : wr.cell? ⟨b, 0, none⟩ = some (.slice la L.length cap) := cell_of (KR.out.obj (fun e => e) H1.out) rfl
      have d0 : wr.cell? ⟨w.heap.size, 0, none⟩ = some (.int .i64 op) := cell_of X3.out rfl
      have d1 : wr.cell? ⟨w.heap.size, 1, none⟩ = some (.slice a n c) := cell_of X3.out rfl
      have hEl : E.length ≤ 1000 := by
        have h1 := HI.out.ent.len
        have h2 := restL_le (L.take k) (op, l)
        rw [List.length_take] at h2
        omega
      obtain ⟨ra, rc, rfl⟩ := own_shape HI.out.row
      by_cases hlt : k < L.length
      · obtain ⟨y, hy⟩ : ∃ y, L[k]? = some y := ⟨_, List.getElem?_eq_getElem hlt⟩
        obtain ⟨g, o, sa, sc, rfl, _, e0, e1, hs⟩ := (H2.out.chg KR.out (fun _ _ e => e)).get hy
        have SA2 := Lib.hid (fun w1 (k : Chg (fun _ => False) wr w1) => SA.out w1 (KR.out.trans k) y sa y.2.length sc (hs.at_.chg k (fun _ _ e => e)))
        have RNK := Lib.hid (RN.out k y hy)
        have HS := Lib.hid hs
        have HII := Lib.hid HI.out
        have hbr := KR.out.size
        clear hs hy HI KR X3
        generalize hb : eqB y (op, l) = r at *
        obtain ⟨oq, ly⟩ := y
        simp only at SA2 e0 e1 HS
        clear hb
        go_wp2_with fail
        refine wp_region_plan (N := 59) [.rd [0, 1, 2, 3, 4, 5, 6, 7], .ef 8, .rd [9]] (fun w' => w'.cell? ⟨b, 0, none⟩ = some (.slice (some ⟨g, o, none⟩) L.length cap) ∧ w'.cell? ⟨w.heap.size, 0, none⟩ = some (.int .i64 op) ∧ w'.cell? ⟨w.heap.size, 1, none⟩ = some (.slice a n c) ∧ w'.cell? ⟨g, o + k * 2, none⟩ = some (.int .i64 oq) ∧ w'.cell? ⟨g, o + k * 2 + 1, none⟩ = some (.slice sa ly.length sc)) (by kernel_rfl) (by kernel_rfl) (by kernel_rfl) (by kernel_rfl) (Nat.le_of_ble_eq_true rfl) ⟨c0, d0, d1, e0, e1⟩ ?_
        refine plan_rd (A := ?A1) ?h1 ?h2
        case h1 =>
          rintro w' ⟨z0, z1, z2, z3, z4⟩ K hK
          simp only [opsAt, List.filterMap_cons, List.filterMap_nil, List.getElem?_toArray, List.getElem?_cons_succ, List.getElem?_cons_zero]
          refine WS.out ?_
          repeat (refine ws_step (fun K hK => ?_); go_simp; refine hK _ ?_; clear hK K)
          refine ws_nil ?_
          exact hK
        have D := Lib.hid (chg_drew (fun _ => False) wr)
        have f0 := cell_chg D.out (fun e => e) c0
        have f1 := cell_chg D.out (fun e => e) d0
        have f2 := cell_chg D.out (fun e => e) d1
        have f3 := cell_chg D.out (fun e => e) e0
        have f4 := cell_chg D.out (fun e => e) e1
        have S3 := Lib.hid (SA2.out wr.drew D.out)
        have KD := Lib.hid D.out
        clear D c0 d0 d1 e0 e1 SA2
        generalize wr.drew = wd at *
        refine plan_ef rfl ?_
        go_wp2_with fail
        (with_reducible refine (S3.out).mono ?_)
        rintro e w4 ⟨rfl, k4⟩
        have K4 := Lib.hid (KD.out.trans k4)
        have g0 := cell_chg k4 (fun e => e) f0
        have g1 := cell_chg k4 (fun e => e) f1
        have g2 := cell_chg k4 (fun e => e) f2
        have g3 := cell_chg k4 (fun e => e) f3
        have g4 := cell_chg k4 (fun e => e) f4
        clear k4 f0 f1 f2 f3 f4 S3 KD
        go_wp2_with fail
        refine ⟨⟨g0, g1, g2, g3, g4⟩, ?_⟩
        refine plan_rd (A := ?A2) ?h3 ?h4
        case h3 =>
          rintro w' ⟨z0, z1, z2, z3, z4⟩ K hK
          simp only [opsAt, List.filterMap_cons, List.filterMap_nil, List.getElem?_toArray, List.getElem?_cons_succ, List.getElem?_cons_zero]
          refine WS.out ?_
          repeat (refine ws_step (fun K hK => ?_); go_simp; refine hK _ ?_; clear hK K)
          refine ws_nil ?_
          exact hK
        refine plan_nil ?_
        have KW := Lib.hid (HII.out.chg.trans K4.out)
        have R4 := Lib.hid (own_chg HII.out.row K4.out (fun _ _ e => e))
        have E4 := Lib.hid (HII.out.ent.chg K4.out (fun _ _ e => e))
        have S4 := Lib.hid (HS.out.chg K4.out (fun _ _ e => e))
        have hb4 : w2.heap.size ≤ w4.heap.size := KW.out.size
        have hb2 : w.heap.size ≤ w2.heap.size := K2.out.size
        clear HII HS K4
        cases r with
        | true =>
          have NX := Lib.hid (show RemIn w2 G L (op, l) (k + 1) (.slice ra E.length rc) E w4 from ⟨R4.out, by rw [RNK.out]; simpa using E4.out, KW.out⟩)
          clear g0 g1 g2 g3 g4
          go_wp2
          go_roundw
          case rel => exact ⟨k + 1, E, by omega, by go_num, NX⟩
          case measure => simp [intOf]; omega
        | false =>
          have BB := Lib.hid (obj_alloc_new w4 (.cells #[.int .i64 oq, .slice sa ly.length sc] 36))
          have ka := chg_alloc (fun _ => False) w4 (.cells #[.int .i64 oq, .slice sa ly.length sc] 36)
          have KA := Lib.hid ka
          clear ka
          go_wp2_with (at_builtin; refine wpList_push rfl (.tmp 30) (.tmp 38) 22 rfl 36 2 32 Try.underlying22 Try.elemEntry w2.heap.size (.slice ra E.length rc) E.length (ecells E) rfl ?a1 w4.heap.size [.int .i64 oq, .slice sa ly.length sc] 36 (0, 0) rfl ?a2 rfl ?a3 ?a4 ?a5 ?a6 ?a7)
          case a1 => exact own_chg R4.out KA.out (fun _ _ e => e)
          case a2 => exact BB.out
          case a3 => intro u hu; simp at hu; rcases hu with rfl | rfl <;> rfl
          case a4 => omega
          case a5 => unfold maxLen; omega
          case a6 => simp; omega
          intro v6 w6 o6 g6
          have NX := Lib.hid (show RemIn w2 G L (op, l) (k + 1) v6 (E ++ [(oq, Value.slice sa ly.length sc)]) w6 from by
            have kg := Chg.of_grown g6
            refine ⟨by rw [ecells_append, List.length_append]; exact o6, ?_, (KW.out.trans KA.out).next kg (fun x hx e => by have := (R4.out.lt x e).1; omega)⟩
            rw [RNK.out]
            have hne : ∀ k, G k → ¬ (Value.slice ra E.length rc).ownBlock = some k := fun k hk e => by
              have := (R4.out.lt k e).1
              have := HG.out k hk
              omega
            exact ((E4.out.chg KA.out (fun _ _ e => e)).chg kg hne).snoc rfl ((S4.out.chg KA.out (fun _ _ e => e)).chg kg hne))
          clear o6 g6 KA R4 E4 S4 BB g0 g1 g2 g3 g4
          obtain ⟨a6, c6, rfl⟩ := own_shape NX.out.row
          go_wp2
          go_roundw
          case rel => exact ⟨k + 1, _, by omega, by go_num, NX⟩
          case measure => simp [intOf]; omega
      · obtain rfl : k = L.length := by omega
        have HII := Lib.hid HI.out
        have B3 := Lib.hid (KR.out.obj (fun e => e) H1.out)
        have m1 : wr.cell? ⟨b, 1, none⟩ = some (.int .i64 (ver : Int)) := cell_of B3.out rfl
        have fz0 : wr.frozen? ⟨b, 0, none⟩ = false := frozen_of B3.out
        have fz1 : wr.frozen? ⟨b, 1, none⟩ = false := frozen_of B3.out
        have hrl : E.length = (restL L (op, l)).length := by have := HI.out.ent.len; rwa [List.take_length] at this
        have HRL := Lib.hid hrl
        have hb2 : w.heap.size ≤ w2.heap.size := K2.out.size
        have hb3 : w2.heap.size ≤ wr.heap.size := HI.out.chg.size
        clear HI X3 hlt hrl
        by_cases hin : (op, l) ∈ L
        · have g1 : ((E.length : Int) == (L.length : Int)) = false := by
            rw [beq_eq_false_iff_ne]
            have := (RL.out).1 hin
            have := HRL.out
            omega
          have R := Lib.hid (R0.out hin)
          have FIN := Lib.hid (show AddRes w b ty G 0 (restL L (op, l)) ver (.returned (.int .i64 0)) ((wr.setCell ⟨b, 0, none⟩ (.slice ra E.length rc)).setCell ⟨b, 1, none⟩ (.int .i64 ((ver : Int) + 1))) from by
            have o10 := obj_setCell (o := 0) B3.out (.slice ra E.length rc)
            have k8 := (chg_cell wr b 0 (.slice ra E.length rc)).trans (chg_cell (wr.setCell ⟨b, 0, none⟩ (.slice ra E.length rc)) b 1 (.int .i64 ((ver : Int) + 1)))
            have hw8 : ((wr.setCell ⟨b, 0, none⟩ (.slice ra E.length rc)).setCell ⟨b, 1, none⟩ (.int .i64 ((ver : Int) + 1))).heap.size = wr.heap.size := by simp [World.setCell]
            have hent := HII.out.ent
            rw [List.take_length] at hent
            refine ⟨rfl, ⟨⟨_, obj_setCell (o := 1) o10 _, ?_⟩, ?_⟩, (KR.out.mono (fun _ _ e => e.elim)).next k8 (fun k hk e => e)⟩
            · have hnb : ∀ k, (G k ∨ (w.heap.size ≤ k ∧ k < wr.heap.size)) → ¬ k = b := fun k h e => by
                rcases h with h | h
                · exact HL.out.out (e ▸ h)
                · omega
              refine EntsAt.chg (S := (· = b)) (w := wr) ?_ k8 ?_
              · rw [hw8]
                exact entsAt_own (G := fun k => G k ∨ (w.heap.size ≤ k ∧ k < wr.heap.size)) HII.out.row (hent.up (fun _ h => .inl h)) (fun k hk => .inr (by have := HII.out.row.lt k hk; omega))
              · rw [hw8]; exact hnb
            · intro h
              rcases h with h | h
              · exact HL.out.out h
              · omega)
          clear HII B3 R10 R0 RN RL RLE SA KR d0 d1 hin
          go_wp2
          rw [R.out]
          exact FIN.out
        · have g1 : ((E.length : Int) == (L.length : Int)) = true := by
            rw [beq_iff_eq]
            by_cases h : (restL L (op, l)).length = L.length
            · have := HRL.out; omega
            · exact absurd (RL.out.2 h) hin
          have R := Lib.hid (R10.out hin)
          clear HII B3 R10 R0 RN RL RLE SA d0 d1 hin
          go_wp2
          rw [R.out]
          exact addRes_same HL.out (by omega) KR.out
set_option maxHeartbeats 2000000 in
set_option maxRecDepth 100000 in
theorem rnew_any (w : World) (v : Value) (l : List BEnt) (G : Nat → Prop) (hl : EntsAt w v G l) (hlen : l.length ≤ 1000) (hz : ∀ x ∈ l, Sizes x.2) :
    Calls Try.prog 11 #[v] w (NewRes w 44 l) := by
  obtain ⟨la, cap, rfl, hcap, hcm⟩ := hl.shape
  have HL := Lib.hid hl
  have HZ := Lib.hid hz
  clear hl hz
  unfold maxLen at hcm
  go_enter Try.func11, Try.ntmps11
  go_wp2
  go_loopw [5] (fun iv wr => ∃ (k : Nat), k ≤ l.length ∧ iv = .int .i64 k ∧ Hid (NewIn w 44 l k wr)) (fun iv _ => l.length - (intOf iv).toNat)
  case atStart => exact ⟨0, by omega, rfl, Lib.hid (newIn_start _ _ _)⟩
  case round =>
    obtain ⟨k, hk, rfl, HI⟩ := hrel
    have hwb := HI.out.lst.lt
    by_cases hlt : k < l.length
    · obtain ⟨x, hx⟩ : ∃ x, l[k]? = some x := ⟨_, List.getElem?_eq_getElem hlt⟩
      obtain ⟨g, o, sa, sc, rfl, _, d0, d1, hs⟩ := (HL.out.chg HI.out.chg (fun _ _ e => e)).get hx
      have ka := Chg.refl (fun _ => False) wr
      have AD := Lib.hid (radd_any wr w.heap.size 44 x (l.take k) k sa x.2.length sc _ G HI.out.lst (by omega) (by rw [List.length_take]; omega) hs (HZ.out x (List.mem_of_getElem? hx)))
      have NX := Lib.hid (fun h0 w2 e hr => HI.out.next (e := e) hx h0 ka (w2 := w2) hr)
      have ER := Lib.hid (fun h0 => HI.out.err_of hx h0)
      have KC := Lib.hid (HI.out.chg.trans ka)
      have hb1 := HI.out.chg.size
      clear HI hs hx ka
      generalize hk : addE x (l.take k) = ek at *
      have HEK := Lib.hid hk
      obtain ⟨op, ls⟩ := x
      simp only at d0 d1 AD NX
      by_cases h0 : ek = 0
      · have NX2 := Lib.hid (NX.out h0)
        subst h0
        clear NX ER hk
        go_wp2_with fail
        (with_reducible refine (AD.out).mono ?_)
        rintro e w4 hr
        have N4 := Lib.hid (NX2.out w4 e hr)
        obtain ⟨rfl, _, _⟩ := hr
        clear AD NX2
        go_wp2
        go_roundw
        case rel => exact ⟨k + 1, by omega, by go_num, N4⟩
        case measure => simp [intOf]; omega
      · have ER2 := Lib.hid (ER.out h0)
        have g1 : (ek != 0) = true := by rw [bne_iff_ne]; exact h0
        have g2 : (ek == 0) = false := by rw [beq_eq_false_iff_ne]; exact h0
        have H0 := Lib.hid h0
        clear NX ER h0 hk
        go_wp2_with fail
        (with_reducible refine (AD.out).mono ?_)
        rintro e w4 ⟨rfl, _, k4⟩
        have K4 := Lib.hid k4
        clear k4 AD
        go_wp2
        go_ret2
        exact newRes_bad ER2.out H0.out KC.out (K4.out.mono (fun x _ e => by omega))
    · obtain rfl : k = l.length := by omega
      obtain ⟨⟨es, h1, h2⟩, h3⟩ := HI.out.lst
      have f1 := frozen_of (o := 1) h1
      have c1 : wr.cell? ⟨w.heap.size, 1, none⟩ = some (.int .i64 (l.length : Int)) := cell_of h1 rfl
      have FIN := Lib.hid (newRes_good HI.out)
      clear HI h1 h2 h3
      go_wp2
      go_ret2
      exact FIN.out
end Go.Proofs.Ytbjdndialiddpaa
