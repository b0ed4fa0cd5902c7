/-
  Package acl: find, Add.
-/
import Derived.Test.YtbjdndialiddpaaAList
namespace Go.Proofs.Ytbjdndialiddpaa
open Go.RowKit Go.Maps

/-- A list, at b. -/
structure ListAt (w : World) (b : Nat) (ty : TypeId) (G : Nat → Prop) (L : List BEnt) (ver : Nat) : Prop where
  obj : ∃ es, w.heap[b]? = some (.cells #[es, .int .i64 (ver : Int)] ty (0, 0)) ∧ EntsAt w es G L
  out : ¬ G b
theorem ListAt.chg {S : Nat → Prop} {w w' : World} {b : Nat} {ty : TypeId} {G : Nat → Prop} {L : List BEnt} {ver : Nat} (h : ListAt w b ty G L ver) (hc : Chg S w w') (hb : ¬ S b) (hs : ∀ k, G k → ¬ S k) : ListAt w' b ty G L ver := by
  obtain ⟨⟨es, h1, h2⟩, h3⟩ := h
  exact ⟨⟨es, hc.obj hb h1, h2.chg hc hs⟩, h3⟩
theorem ListAt.up {w : World} {b : Nat} {ty : TypeId} {G G' : Nat → Prop} {L : List BEnt} {ver : Nat} (h : ListAt w b ty G L ver) (hg : ∀ k, G k → G' k) (hb : ¬ G' b) : ListAt w b ty G' L ver := by
  obtain ⟨⟨es, h1, h2⟩, h3⟩ := h
  exact ⟨⟨es, h1, h2.up hg⟩, hb⟩
theorem ListAt.lt {w : World} {b : Nat} {ty : TypeId} {G : Nat → Prop} {L : List BEnt} {ver : Nat} (h : ListAt w b ty G L ver) : b < w.heap.size := by
  obtain ⟨⟨es, h1, h2⟩, h3⟩ := h
  exact lt_of_obj h1
theorem ListAt.open {w : World} {b : Nat} {ty : TypeId} {G : Nat → Prop} {L : List BEnt} {ver : Nat} (h : ListAt w b ty G L ver) :
    ∃ la cap, w.heap[b]? = some (.cells #[.slice la L.length cap, .int .i64 (ver : Int)] ty (0, 0)) ∧ EntsAt w (.slice la L.length cap) G L ∧ L.length ≤ cap ∧ cap ≤ maxLen := by
  obtain ⟨⟨es, h1, h2⟩, h3⟩ := h
  obtain ⟨la, cap, rfl, q1, q2⟩ := h2.shape
  exact ⟨la, cap, h1, h2, q1, q2⟩
set_option maxRecDepth 100000 in
theorem find_any (w : World) (b : Nat) (ty : TypeId) (x : BEnt) (L : List BEnt) (ver : Nat) (a : Option Addr) (n c : Nat) (G G' : Nat → Prop) (hl : ListAt w b ty G L ver) (hv : WordsAt w (.slice a n c) G' x.2) :
    Calls Try.prog 31 #[.pointer (some ⟨b, 0, none⟩), .agg #[.int .i64 x.1, .slice a n c]] w fun e w' => e = .returned (.int .i64 (idxE L x)) ∧ Chg (fun _ => False) w w' := by
  obtain ⟨la, cap, h1, h2, _⟩ := hl.open
  have k1 := chg_alloc (fun _ => False) w (.cells #[.int .i64 x.1, .slice a n c] 36)
  have IX := Lib.hid (indexE_any _ _ x L a n c w.heap.size G' G (obj_alloc_new w (.cells #[.int .i64 x.1, .slice a n c] 36)) (hv.chg k1 (fun _ _ e => e)) (h2.chg k1 (fun _ _ e => e)))
  have K1 := Lib.hid k1
  have c0 : (w.alloc (.cells #[.int .i64 x.1, .slice a n c] 36)).cell? ⟨b, 0, none⟩ = some (.slice la L.length cap) := cell_of (k1.obj (fun e => e) h1) rfl
  clear k1 hl hv h1 h2
  generalize idxE L x = r at *
  obtain ⟨op, l⟩ := x
  simp only at IX K1 c0 ⊢
  go_enter Try.func31, Try.ntmps31
  go_wp2_with fail
  (with_reducible refine (IX.out).mono ?_)
  rintro e w2 ⟨rfl, k2⟩
  go_wp2
  go_ret
  exact ⟨rfl, K1.out.trans k2⟩
def verN (e : Int) (ver : Nat) : Nat := if e = 0 then ver + 1 else ver
def AddRes (w : World) (b : Nat) (ty : TypeId) (G : Nat → Prop) (k : Int) (L : List BEnt) (ver : Nat) (e : Ending) (w' : World) : Prop :=
  e = .returned (.int .i64 k) ∧ ListAt w' b ty (fun k => G k ∨ (w.heap.size ≤ k ∧ k < w'.heap.size)) L (verN k ver) ∧ Chg (· = b) w w'
theorem addRes_same {w w' : World} {b : Nat} {ty : TypeId} {G : Nat → Prop} {k : Int} {L : List BEnt} {ver : Nat} (hl : ListAt w b ty G L ver) (hk : k ≠ 0) (hc : Chg (fun _ => False) w w') : AddRes w b ty G k L ver (.returned (.int .i64 k)) w' := by
  refine ⟨rfl, ?_, hc.mono (fun _ _ e => e.elim)⟩
  unfold verN
  rw [if_neg hk]
  exact (hl.chg hc (fun e => e) (fun _ _ e => e)).up (fun _ h => .inl h) (fun h => h.elim hl.out (fun h => by have := hl.lt; omega))
theorem idxE_in {L : List BEnt} {x : BEnt} (h : x ∈ L) : idxE L x = ((L.idxOf x : Nat) : Int) ∧ L.idxOf x < L.length ∧ L[L.idxOf x]? = some x := by
  have h1 := List.idxOf_lt_length_of_mem h
  exact ⟨if_pos h, h1, by rw [List.getElem?_eq_getElem h1, List.getElem_idxOf h1]⟩
theorem Try.sizeEntries : (Try.prog.info? 22).map (·.size) = some 1 := by kernel_rfl
set_option maxHeartbeats 4000000 in
set_option maxRecDepth 100000 in
theorem add_any (w : World) (b : Nat) (ty : TypeId) (x : BEnt) (L : List BEnt) (ver : Nat) (a : Option Addr) (n c : Nat) (G G' : Nat → Prop) (hl : ListAt w b ty G L ver) (hver : ver ≤ 1000000) (hv : SetAt w (.slice a n c) G' x.2) :
    Calls Try.prog 12 #[.pointer (some ⟨b, 0, none⟩), .agg #[.int .i64 x.1, .slice a n c]] w (AddRes w b ty G (addE x L) (addL x L) ver) := by
  obtain ⟨la, cap, h1, h2, hcap, hcm⟩ := hl.open
  have hbl := hl.lt
  unfold maxLen at hcm
  have k1 := chg_alloc (fun _ => False) w (.cells #[.int .i64 x.1, .slice a n c] 36)
  have K1 := Lib.hid k1
  have MAY := Lib.hid (emay_any _ x a n c G' (hv.at_.chg k1 (fun _ _ e => e)))
  have FI := Lib.hid (fun w1 (k : Chg (fun _ => False) w w1) => find_any w1 b ty x L ver a n c G G' (hl.chg k (fun e => e) (fun _ _ e => e)) (hv.at_.chg k (fun _ _ e => e)))
  have c0 : (w.alloc (.cells #[.int .i64 x.1, .slice a n c] 36)).cell? ⟨b, 0, none⟩ = some (.slice la L.length cap) := cell_of (k1.obj (fun e => e) h1) rfl
  have X1 := Lib.hid (obj_alloc_new w (.cells #[.int .i64 x.1, .slice a n c] 36))
  have HL := Lib.hid hl
  have HV := Lib.hid hv
  have H1 := Lib.hid h1
  have H2 := Lib.hid h2

  clear k1 hl hv h1 h2
  cases hm : entB x with
  | false =>
    have R : addE x L = 2 := by unfold addE; rw [hm]; rfl
    have RL : addL x L = L := by unfold addL; rw [R]; rfl
    rw [R, RL]
    rw [hm] at MAY
    clear R RL hm FI
    obtain ⟨op, l⟩ := x
    simp only at MAY K1 c0 ⊢
    go_enter Try.func12, Try.ntmps12
    go_wp2_with fail
    (with_reducible refine (MAY.out).mono ?_)
    rintro e w2 ⟨rfl, k2⟩
    go_wp2
    go_ret
    exact addRes_same HL.out (by omega) (K1.out.trans k2)
  | true =>
    rw [hm] at MAY
    have HM := Lib.hid hm
    clear hm
    by_cases hin : x ∈ L
    · have R : addE x L = 11 := by unfold addE; rw [if_pos HM.out, if_pos hin]
      have RL : addL x L = L := by unfold addL; rw [R]; rfl
      obtain ⟨e1, e2, _⟩ := idxE_in hin
      have g : decide (0 ≤ idxE L x) = true := by rw [e1]; exact decide_eq_true (by omega)
      rw [R, RL]
      clear R RL hin e1 e2
      obtain ⟨op, l⟩ := x
      simp only at MAY K1 c0 FI ⊢
      go_enter Try.func12, Try.ntmps12
      go_wp2_with fail
      (with_reducible refine (MAY.out).mono ?_)
      rintro e w2 ⟨rfl, k2⟩
      have o2 := k2.obj (fun e => e) X1.out
      have d0 : w2.cell? ⟨w.heap.size, 0, none⟩ = some (.int .i64 op) := cell_of o2 rfl
      have d1 : w2.cell? ⟨w.heap.size, 1, none⟩ = some (.slice a n c) := cell_of o2 rfl
      have K2 := Lib.hid (K1.out.trans k2)
      have F2 := Lib.hid (FI.out w2 K2.out)
      clear o2 k2 K1 FI MAY
      go_wp2_with fail
      (with_reducible refine (F2.out).mono ?_)
      rintro e w3 ⟨rfl, k3⟩
      go_wp2
      go_ret
      exact addRes_same HL.out (by omega) (K2.out.trans k3)
    · have hi : idxE L x = -1 := if_neg hin
      rw [hi] at FI
      have HIN := Lib.hid hin
      clear hi hin
      by_cases hmany : 12 ≤ L.length
      · have R : addE x L = 3 := by unfold addE; rw [if_pos HM.out, if_neg HIN.out, if_pos hmany]
        have RL : addL x L = L := by unfold addL; rw [R]; rfl
        have g : decide (12 ≤ (L.length : Int)) = true := by rw [decide_eq_true_eq]; omega
        rw [R, RL]
        clear R RL
        obtain ⟨op, l⟩ := x
        simp only at MAY K1 c0 FI ⊢
        go_enter Try.func12, Try.ntmps12
        go_wp2_with fail
        (with_reducible refine (MAY.out).mono ?_)
        rintro e w2 ⟨rfl, k2⟩
        have o2 := k2.obj (fun e => e) X1.out
        have d0 : w2.cell? ⟨w.heap.size, 0, none⟩ = some (.int .i64 op) := cell_of o2 rfl
        have d1 : w2.cell? ⟨w.heap.size, 1, none⟩ = some (.slice a n c) := cell_of o2 rfl
        have K2 := Lib.hid (K1.out.trans k2)
        have F2 := Lib.hid (FI.out w2 K2.out)
        clear o2 k2 K1 FI MAY
        go_wp2_with fail
        (with_reducible refine (F2.out).mono ?_)
        rintro e w3 ⟨rfl, k3⟩
        go_wp2
        go_ret
        exact addRes_same HL.out (by omega) (K2.out.trans k3)
      · have R : addE x L = 0 := by unfold addE; rw [if_pos HM.out, if_neg HIN.out, if_neg hmany]
        have RL : addL x L = L ++ [x] := by unfold addL; rw [R]; rfl
        have g : decide (12 ≤ (L.length : Int)) = false := by rw [decide_eq_false_iff_not]; omega
        obtain ⟨hs1, hs2⟩ := setB_len (entB_iff.1 HM.out).2
        have hL11 : L.length ≤ 11 := by omega
        have CL := Lib.hid (fun w1 (k : Chg (fun _ => False) w w1) => eclone_any w1 x a n c G' (HV.out.chg k (fun _ _ e => e)) hs1 (by omega))
        have SZ := Lib.hid (show ∀ s ∈ x.2, s.size ≤ maxLen from fun s hs => by
          obtain ⟨j, hj⟩ := List.mem_iff_getElem?.1 hs
          obtain ⟨_, _, _, _, hc⟩ := HV.out.at_
          obtain ⟨_, _, _, _, _, q⟩ := hc j s hj
          exact q)
        rw [R, RL]
        clear R RL hs1 hs2 hmany
        have ENT := Lib.hid (show ∀ W v base E, Chg (fun _ => False) w W → W.ownsRow base 40 1 v x.2.length (wcells x.2) → Ents w G E L → Ents W (fun k => G k ∨ (base ≤ k ∧ k < W.heap.size)) (E ++ [(x.1, v)]) (L ++ [x]) from fun W v base E hc ho hE =>
          ((hE.chg hc (fun _ _ e => e)).up (fun _ h => .inl h)).snoc rfl ((setAt_own ho SZ.out).up (fun k hk => .inr (ho.lt k hk))))
        obtain ⟨op, l⟩ := x
        simp only at MAY K1 c0 FI CL ENT ⊢
        go_enter Try.func12, Try.ntmps12
        go_wp2_with fail
        (with_reducible refine (MAY.out).mono ?_)
        rintro e w2 ⟨rfl, k2⟩
        have o2 := k2.obj (fun e => e) X1.out
        have d0 : w2.cell? ⟨w.heap.size, 0, none⟩ = some (.int .i64 op) := cell_of o2 rfl
        have d1 : w2.cell? ⟨w.heap.size, 1, none⟩ = some (.slice a n c) := cell_of o2 rfl
        have K2 := Lib.hid (K1.out.trans k2)
        have F2 := Lib.hid (FI.out w2 K2.out)
        have X2 := Lib.hid o2
        clear o2 k2 K1 FI MAY
        go_wp2_with fail
        (with_reducible refine (F2.out).mono ?_)
        rintro e w3 ⟨rfl, k3⟩
        have K3 := Lib.hid (K2.out.trans k3)
        have o3 := k3.obj (fun e => e) X2.out
        have d0 : w3.cell? ⟨w.heap.size, 0, none⟩ = some (.int .i64 op) := cell_of o3 rfl
        have d1 : w3.cell? ⟨w.heap.size, 1, none⟩ = some (.slice a n c) := cell_of o3 rfl
        have c0 : w3.cell? ⟨b, 0, none⟩ = some (.slice la L.length cap) := cell_of (K3.out.obj (fun e => e) H1.out) rfl
        clear o3 k3 K2 X2 F2
        go_wp2_with fail
        have hb3 : w.heap.size ≤ w3.heap.size := K3.out.size
        refine wp_region_planL (N := 44) [.rd [0, 1, 2, 3, 4, 5, 6, 7, 8], .ef 9, .ef 10, .ef 11, .ef 12, .ef 13, .ef 14] 14 (fun w' => w'.cell? ⟨b, 0, none⟩ = some (.slice la L.length cap) ∧ w'.cell? ⟨w.heap.size, 0, none⟩ = some (.int .i64 op) ∧ w'.cell? ⟨w.heap.size, 1, none⟩ = some (.slice a n c)) (by kernel_rfl) (by kernel_rfl) (by kernel_rfl) (by kernel_rfl) (by kernel_rfl) (Nat.le_of_ble_eq_true rfl) ⟨c0, d0, d1⟩ ?_
        refine planL_rd (A := ?A1) ?h1 ?h2
        case h1 =>
          rintro w' ⟨z0, z1, z2⟩ K hK
          simp only [opsAt, List.filterMap_cons, List.filterMap_nil, List.getElem?_toArray, List.getElem?_cons_succ, List.getElem?_cons_zero]
          repeat still_step
          refine wpStill_nil ?_
          exact hK
        have e0 : w3.drew.cell? ⟨b, 0, none⟩ = some (.slice la L.length cap) := c0
        have e1 : w3.drew.cell? ⟨w.heap.size, 0, none⟩ = some (.int .i64 op) := d0
        have e2 : w3.drew.cell? ⟨w.heap.size, 1, none⟩ = some (.slice a n c) := d1
        have KD := Lib.hid (K3.out.drew)
        have C3 := Lib.hid (CL.out w3.drew KD.out)
        have hbd : w.heap.size ≤ w3.drew.heap.size := hb3
        clear c0 d0 d1 CL K3 hb3
        generalize w3.drew = wd at *
        refine planL_ef rfl ?_
        go_wp2_with fail
        (with_reducible refine (C3.out).mono ?_)
        rintro e w4 ⟨v4, rfl, o4, k4⟩
        obtain ⟨a4, c4, rfl⟩ := own_shape o4
        have K4 := Lib.hid (KD.out.trans k4)
        have O4 := Lib.hid o4
        have f0 := cell_chg k4 (fun e => e) e0
        have f1 := cell_chg k4 (fun e => e) e1
        have f2 := cell_chg k4 (fun e => e) e2
        have hb4 : w.heap.size ≤ w4.heap.size := K4.out.size
        clear o4 k4 e0 e1 e2 C3 KD
        go_wp2_with fail
        refine ⟨.inr ⟨f0, f1, f2⟩, ?_⟩
        refine planL_ef rfl ?_
        go_wp2_with fail
        have ca := chg_alloc (fun _ => False) w4 (.cells #[.int .i64 op, .slice a4 l.length c4] 36)
        have e0 := cell_chg ca (fun e => e) f0
        have e1 := cell_chg ca (fun e => e) f1
        have e2 := cell_chg ca (fun e => e) f2
        refine ⟨.inr ⟨e0, e1, e2⟩, ?_⟩
        have K5 := Lib.hid (K4.out.trans ca)
        have B5 := Lib.hid (obj_alloc_new w4 (.cells #[.int .i64 op, .slice a4 l.length c4] 36))
        have O5 := Lib.hid (own_chg O4.out ca (fun _ _ e => e))
        obtain ⟨EN, hEN⟩ : ∃ E, E.length = L.length ∧ Ents w G E L ∧ (la = none → L.length = 0) ∧ ∀ (j : Nat) u, (ecells E)[j]? = some u → ∃ lb lo, la = some ⟨lb, lo, none⟩ ∧ w.cell? ⟨lb, lo + j, none⟩ = some u := by
          obtain ⟨E, la', cap', e, q1, q2, q3, q4, q5⟩ := H2.out
          cases e
          exact ⟨E, q4.len, q4, fun e => by have := q3 e; omega, fun j u hj => by obtain ⟨lb, lo, r1, _, r2⟩ := q5 j u hj; exact ⟨lb, lo, r1, r2⟩⟩
        have HEN := Lib.hid hEN
        clear hEN f0 f1 f2 ca K4 O4
        refine planL_ef rfl ?_
        refine wpList_pushX rfl (.tmp 30) (.tmp 33) 22 rfl 36 2 32 Try.underlying22 Try.elemEntry la L.length (ecells EN) rfl (by rw [ecells_length, HEN.out.1]) (fun j u hj => by obtain ⟨lb, lo, r1, r2⟩ := HEN.out.2.2.2 j u hj; exact ⟨lb, lo, r1, cell_chg K5.out (fun e => e) r2⟩) HEN.out.2.2.1 w4.heap.size 0 1 1 [.int .i64 op, .slice a4 l.length c4] rfl rfl (fun j u hj => by rw [Nat.zero_add]; exact cell_of B5.out (by simpa using hj)) (by omega) (by
            intro u hu
            rcases List.mem_append.1 hu with q | q
            · exact ecells_one HEN.out.2.1.one u q
            · simp at q
              rcases q with rfl | rfl <;> rfl) (by omega) (by unfold maxLen; omega) ?_
        intro v6 w6 o6 k6 hs6
        have e0 := cell_chg k6 (fun e => e) e0
        have e1 := cell_chg k6 (fun e => e) e1
        have e2 := cell_chg k6 (fun e => e) e2
        obtain ⟨a6, c6, rfl⟩ := own_shape o6
        have o6b : w6.ownsRow w4.heap.size 36 2 (.slice a6 (L.length + 1) c6) (EN ++ [(op, Value.slice a4 l.length c4)]).length (ecells (EN ++ [(op, Value.slice a4 l.length c4)])) := by
          rw [ecells_append, List.length_append, HEN.out.1]
          exact own_base o6 (by simp)
        have en6 := ENT.out w6 _ _ EN (K5.out.trans k6) (own_chg O5.out k6 (fun _ _ e => e)) HEN.out.2.1
        have O6 := Lib.hid o6b
        have EN6 := Lib.hid en6
        have K6 := Lib.hid (K5.out.trans k6)
        have hb6 : w4.heap.size ≤ w6.heap.size := by simp at hs6; omega
        have B6 := Lib.hid (K6.out.obj (fun e => e) H1.out)
        clear o6 o6b en6 k6 hs6 K5 O5 B5 HEN ENT
        go_wp2_with fail
        refine ⟨.inr ⟨e0, e1, e2⟩, ?_⟩
        refine planL_ef rfl ?_
        go_wp2_with fail
        refine ⟨.inr ⟨e0, e1, e2⟩, ?_⟩
        refine planL_ef rfl ?_
        go_wp2_with fail
        refine ⟨.inr ⟨e0, e1, e2⟩, ?_⟩
        refine planL_ef rfl ?_
        refine wpList_store_one rfl 22 (.tmp 36) (.tmp 34) rfl b 0 rfl (.slice a6 (L.length + 1) c6) rfl rfl rfl Try.sizeEntries _ e0 (frozen_of B6.out) ?_
        intro w7 hw7
        refine ⟨.inl rfl, planL_nil ?_⟩
        have o7 : w7.heap[b]? = some (.cells #[.slice a6 (L.length + 1) c6, .int .i64 (ver : Int)] ty (0, 0)) := by rw [hw7]; exact obj_setCell B6.out _
        have k7 : Chg (· = b) w6 w7 := by rw [hw7]; exact chg_cell _ _ _ _
        have d1 : w7.cell? ⟨b, 1, none⟩ = some (.int .i64 (ver : Int)) := cell_of o7 rfl
        have fz1 : w7.frozen? ⟨b, 1, none⟩ = false := frozen_of o7
        have FIN := Lib.hid (show AddRes w b ty G 0 (L ++ [(op, l)]) ver (.returned (.int .i64 0)) (w7.setCell ⟨b, 1, none⟩ (.int .i64 ((ver : Int) + 1))) from by
          have k8 := k7.trans (chg_cell w7 b 1 (.int .i64 ((ver : Int) + 1)))
          have hw8 : (w7.setCell ⟨b, 1, none⟩ (.int .i64 ((ver : Int) + 1))).heap.size = w6.heap.size := by rw [hw7]; simp [World.setCell]
          refine ⟨rfl, ⟨⟨_, obj_setCell (o := 1) o7 _, ?_⟩, ?_⟩, (K6.out.mono (fun _ _ e => e.elim)).next k8 (fun k hk e => e)⟩
          · have hnb : ∀ k, (G k ∨ (w.heap.size ≤ k ∧ k < w6.heap.size)) → ¬ k = b := fun k h e => by
              rcases h with h | h
              · exact HL.out.out (e ▸ h)
              · omega
            refine EntsAt.chg (S := (· = b)) (w := w6) ?_ k8 ?_
            · rw [hw8]
              exact entsAt_own (G := fun k => G k ∨ (w.heap.size ≤ k ∧ k < w6.heap.size)) O6.out (EN6.out.up (fun k h => h.imp id (fun h => by omega))) (fun k hk => .inr (by have := O6.out.lt k hk; omega))
            · rw [hw8]; exact hnb
          · intro h
            rcases h with h | h
            · exact HL.out.out h
            · omega)
        clear o7 k7 hw7 e0 e1 e2 O6 EN6 K6 B6
        go_wp2
        go_ret
        exact FIN.out
end Go.Proofs.Ytbjdndialiddpaa
