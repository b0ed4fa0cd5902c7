/-
  AclEdits, walked.
-/
import Derived.Test.YtbjdndialiddpaaAAwake
import Derived.Test.YtbjdndialiddpaaAActs
namespace Go.Proofs.Ytbjdndialiddpaa
open Go.RowKit Go.Maps

def anyE (x : BEnt) (L : List BEnt) : Bool := L.any (eqB x)
theorem anyE_iff {x : BEnt} {L : List BEnt} : anyE x L = true ↔ x ∈ L := by
  unfold anyE
  rw [List.any_eq_true]
  constructor
  · rintro ⟨y, hy, h⟩
    have := of_decide_eq_true h
    rw [this]; exact hy
  · exact fun h => ⟨x, h, decide_eq_true rfl⟩
theorem anyE_next {x y : BEnt} {L : List BEnt} {k : Nat} (hy : L[k]? = some y) : anyE x (L.take (k + 1)) = (anyE x (L.take k) || eqB x y) := by
  unfold anyE
  rw [List.take_add_one, hy, List.any_append]; simp
/-- What an act tells. -/
structure ActOk (kind : Int) (x : BEnt) (L : List BEnt) (ec : Int) (L2 : List BEnt) : Prop where
  bad : ec ≠ 0 → L2 = L
  had : ec = 0 → anyE x L = decide (kind = 1)
  len : ec = 0 → (L2.length : Int) = L.length + 1 - 2 * kind
  has : ec = 0 → anyE x L2 = !anyE x L
  ok : LOk L2
theorem act_add {x : BEnt} {L : List BEnt} (h : LOk L) : ActOk 0 x L (addE x L) (addL x L) := by
  refine ⟨fun e => by unfold addL; rw [if_neg e], fun e => ?_, fun e => ?_, fun e => ?_, h.add⟩
  · obtain ⟨_, h2, _⟩ := addE_zero e
    have h3 : anyE x L = false := by rw [← Bool.not_eq_true, anyE_iff]; exact h2
    rw [h3]; rfl
  · unfold addL; rw [if_pos e]; simp
  · obtain ⟨_, h2, _⟩ := addE_zero e
    have h3 : anyE x L = false := by rw [← Bool.not_eq_true, anyE_iff]; exact h2
    have h4 : anyE x (addL x L) = true := by rw [anyE_iff]; unfold addL; rw [if_pos e]; simp
    rw [h3, h4]; rfl
theorem act_rem {x : BEnt} {L : List BEnt} (h : LOk L) : ActOk 1 x L (remE x L) (remL x L) := by
  refine ⟨fun e => by unfold remL; rw [if_neg e], fun e => ?_, fun e => ?_, fun e => ?_, h.rem⟩
  · rw [anyE_iff.2 (remE_zero e).2]; rfl
  · have hm := (remE_zero e).2
    have := List.length_pos_of_mem hm
    unfold remL; rw [if_pos e, List.length_erase_of_mem hm]; omega
  · have hm := (remE_zero e).2
    have h3 : anyE x L = true := anyE_iff.2 hm
    have h4 : anyE x (remL x L) = false := by
      rw [← Bool.not_eq_true, anyE_iff]
      unfold remL; rw [if_pos e]
      exact h.nodup.not_mem_erase
    rw [h3, h4]; rfl
theorem ListAt.sizes {w : World} {b : Nat} {ty : TypeId} {G : Nat → Prop} {L : List BEnt} {ver : Nat} (h : ListAt w b ty G L ver) : ∀ x ∈ L, ∀ s ∈ x.2, s.size ≤ maxLen := by
  intro x hx s hs
  obtain ⟨j, hj⟩ := List.mem_iff_getElem?.1 hx
  obtain ⟨la, cap, _, h2, _⟩ := h.open
  obtain ⟨_, _, _, _, _, _, _, _, q⟩ := h2.get hj
  obtain ⟨_, _, _, _, hc⟩ := q.at_
  obtain ⟨i, hi⟩ := List.mem_iff_getElem?.1 hs
  obtain ⟨_, _, _, _, _, q⟩ := hc i s hi
  exact q
/-- A list's state in a law: it lies in what is new since w. -/
structure LSt (w : World) (b : Nat) (ty : TypeId) (L : List BEnt) (ver : Nat) (wr : World) : Prop where
  lst : ∃ G, ListAt wr b ty G L ver ∧ ∀ k, G k → w.heap.size ≤ k ∧ k < wr.heap.size
  ok : LOk L
  new : w.heap.size ≤ b
theorem LSt.chg {w wr w' : World} {b : Nat} {ty : TypeId} {L : List BEnt} {ver : Nat} (h : LSt w b ty L ver wr) (hc : Chg (fun _ => False) wr w') : LSt w b ty L ver w' := by
  obtain ⟨⟨G, h1, h2⟩, h3, h4⟩ := h
  exact ⟨⟨G, h1.chg hc (fun e => e) (fun _ _ e => e), fun k hk => ⟨(h2 k hk).1, Nat.lt_of_lt_of_le (h2 k hk).2 hc.size⟩⟩, h3, h4⟩
theorem LSt.lt {w wr : World} {b : Nat} {ty : TypeId} {L : List BEnt} {ver : Nat} (h : LSt w b ty L ver wr) : b < wr.heap.size := by
  obtain ⟨⟨G, h1, h2⟩, h3, h4⟩ := h
  exact h1.lt
theorem LSt.act {w w1 w2 : World} {b : Nat} {ty : TypeId} {L2 : List BEnt} {ver : Nat} {G : Nat → Prop} {ec : Int} {e : Ending} (hn : w.heap.size ≤ b) (hG : ∀ k, G k → w.heap.size ≤ k ∧ k < w1.heap.size) (hb : w.heap.size ≤ w1.heap.size) (ho : LOk L2) (h : AddRes w1 b ty G ec L2 ver e w2) : LSt w b ty L2 (verN ec ver) w2 := by
  obtain ⟨_, h2, h3⟩ := h
  refine ⟨⟨_, h2, fun k hk => ?_⟩, ho, hn⟩
  rcases hk with q | q
  · exact ⟨(hG k q).1, Nat.lt_of_lt_of_le (hG k q).2 h3.size⟩
  · exact ⟨by omega, q.2⟩
def AllSt (L : List BEnt) (w : World) (e : Ending) (w' : World) : Prop := ∃ va, e = .returned va ∧ EntsAt w' va (fun k => w.heap.size ≤ k ∧ k < w'.heap.size) L ∧ Chg (fun _ => False) w w'
theorem all_st {w wr : World} {b : Nat} {L : List BEnt} {ver : Nat} (h : LSt w b 70 L ver wr) : Calls Try.prog 16 #[.pointer (some ⟨b, 0, none⟩)] wr (AllSt L wr) := by
  obtain ⟨⟨G, h1, h2⟩, h3, h4⟩ := h
  refine (lall_any wr b _ L ver G h1 h3).mono fun e w' ⟨va, E, he, hE, hc⟩ => ⟨va, he, hE.up h1.sizes, hc⟩
theorem ver_st {w wr : World} {b : Nat} {L : List BEnt} {ver : Nat} (h : LSt w b 70 L ver wr) : Calls Try.prog 18 #[.pointer (some ⟨b, 0, none⟩)] wr fun e w' => e = .returned (.int .i64 (ver : Int)) ∧ wr = w' := by
  obtain ⟨⟨G, h1, h2⟩, h3, h4⟩ := h
  exact version_any wr b _ L ver G h1
theorem new_st {w w' : World} {ty : TypeId} {l : List BEnt} {b : Nat} (h0 : newE [] l = 0) (h : ListAt w' b ty (NewG w w' b) l 0) (hb : w.heap.size ≤ b) : LSt w b ty l 0 w' :=
  ⟨⟨_, h, fun k hk => ⟨hk.1, hk.2.1⟩⟩, by have := newE_ok l [] LOk.nil h0; rwa [List.nil_append] at this, hb⟩
set_option maxHeartbeats 4000000 in
set_option maxRecDepth 100000 in
theorem edits_law (w : World) (ev av : Value) (L0 : List BEnt) (A : List (Int × BEnt)) (hE : EntsAt w ev (· < w.heap.size) L0) (hA : ActsAt w av (· < w.heap.size) A) :
    Calls Try.prog 7 #[ev, av] w fun e w' => e = .returned (.bool true) ∧ Chg (fun _ => False) w w' := by
  have AW := Lib.hid (awake16_any w)
  have HE := Lib.hid hE
  have HA := Lib.hid hA
  obtain ⟨la, cap, rfl, hcap, hcm⟩ := hE.shape
  obtain ⟨ra, rcap, rfl, hl0, _⟩ := hA
  unfold maxLen at hcm hl0
  clear hE
  go_enter Try.func7, Try.ntmps7
  go_wp2_with fail
  (with_reducible refine (AW.out).mono ?_)
  rintro e w1 ⟨rfl, k1⟩
  have K1 := Lib.hid k1
  have MA := Lib.hid (many_any w1 _ L0 _ (HE.out.chg k1 (fun _ _ e => e)))
  clear k1 AW
  go_wp2_with fail
  (with_reducible refine (MA.out).mono ?_)
  rintro e w2 ⟨r, rfl, hr, k2⟩
  have HNM := Lib.hid hr
  have K2 := Lib.hid (K1.out.trans k2)
  clear hr k2 MA K1
  cases r with
  | true =>
    go_wp2
    go_ret
    exact ⟨rfl, K2.out⟩
  | false =>
    have hL30 := (HNM.out rfl).few
    have N1 := Lib.hid (lnew_any w2 _ L0 _ (HE.out.chg K2.out (fun _ _ e => e)) (by omega))
    clear HNM
    by_cases h0 : newE [] L0 = 0
    · have H0 := Lib.hid h0
      clear h0
      go_wp2_with fail
      (with_reducible refine (N1.out).mono ?_)
      rintro e w5 ⟨hq, _, k5⟩
      obtain ⟨b, rfl, hb1, hl⟩ := hq H0.out
      have ST := Lib.hid (new_st H0.out hl hb1)
      have K5 := Lib.hid (K2.out.trans k5)
      have V5 := Lib.hid (ver_st ST.out)
      have A5 := Lib.hid (all_st ST.out)
      have hw2 : w.heap.size ≤ w2.heap.size := K2.out.size
      clear hq k5 hl N1 H0
      go_wp2_with fail
      (with_reducible refine (V5.out).mono ?_)
      rintro e w6 ⟨rfl, rfl⟩
      clear V5
      go_wp2_with fail
      (with_reducible refine (A5.out).mono ?_)
      rintro e w6 ⟨va, rfl, hva, k6⟩
      have K6 := Lib.hid (K5.out.trans k6)
      have S6 := Lib.hid (ST.out.chg k6)
      have SM := same_any w6 _ _ L0 L0 _ _ hva (HE.out.chg K6.out (fun _ _ e => e))
      rw [show sameL L0 L0 = true from decide_eq_true rfl] at SM
      have SM := Lib.hid SM
      obtain ⟨va1, va2, rfl, _⟩ := hva.shape
      clear k6 A5 ST K5 hva
      go_wp2_with fail
      (with_reducible refine (SM.out).mono ?_)
      rintro e w7 ⟨rfl, k7⟩
      have K7 := Lib.hid (K6.out.trans k7)
      have S7 := Lib.hid (S6.out.chg k7)
      clear k7 SM S6 K6
      go_wp2
      go_loopw [7] (fun iv wr => ∃ (k ver : Nat) (L : List BEnt), k ≤ A.length ∧ k ≤ 60 ∧ ver ≤ k ∧ iv = .int .i64 k ∧ Hid (LSt w2 b 70 L ver wr ∧ Chg (fun _ => False) w wr)) (fun iv _ => A.length - (intOf iv).toNat)
      case atStart => exact ⟨0, 0, L0, by omega, by omega, by omega, rfl, Lib.hid ⟨S7.out, K7.out⟩⟩
      case round =>
        obtain ⟨k, ver, L, hk, hk6, hver, rfl, HI⟩ := hrel
        by_cases hlt : k < A.length ∧ k < 60
        · obtain ⟨hlt, hlt6⟩ := hlt
          have g60 : decide ((k : Int) < 60) = true := decide_eq_true (by omega)
          obtain ⟨x, hx⟩ : ∃ x, A[k]? = some x := ⟨_, List.getElem?_eq_getElem hlt⟩
          obtain ⟨_, _, eqn, _, hac⟩ := HA.out.chg HI.out.2 (fun _ _ e => e)
          cases eqn
          obtain ⟨g, o, sa, sc, rfl, _, d0, d1, d2, hs⟩ := hac k x hx
          obtain ⟨kind, op, s⟩ := x
          simp only at d0 d1 d2 hs
          have ka := chg_alloc (fun _ => False) wr (.cells #[.int .i64 kind, .int .i64 op, .slice sa s.length sc] 38)
          have ob := obj_alloc_new wr (.cells #[.int .i64 kind, .int .i64 op, .slice sa s.length sc] 38)
          have KA := Lib.hid (HI.out.2.trans ka)
          have SA := Lib.hid (HI.out.1.chg ka)
          have HS := Lib.hid (hs.chg ka (fun _ _ e => e))
          have OB := Lib.hid ob
          have hwr : w.heap.size ≤ wr.heap.size := HI.out.2.size
          have HI0 := HI
          clear hs hac hx HI
          have HBW := Lib.hid HI0.out.1.lt
          clear HI0
          have MA2 := many_any _ _ [(op, s)] _ (entsAt_lit _ (op, s) (.slice sa s.length sc) _ HS.out)
          rw [World.size_alloc] at MA2
          have MA2 := Lib.hid MA2
          have kb := chg_alloc (fun _ => False) (wr.alloc (.cells #[.int .i64 kind, .int .i64 op, .slice sa s.length sc] 38)) (.cells #[.int .i64 op, .slice sa s.length sc] 36)
          have KB := Lib.hid kb
          clear kb
          go_wp2_with fail
          (with_reducible refine (MA2.out).mono ?_)
          rintro e w8 ⟨r, rfl, _, k8⟩
          clear d0 d1 d2
          have kx := KB.out.trans k8
          have o8 := kx.obj (fun e => e) OB.out
          have K8 := Lib.hid (KA.out.trans kx)
          have S8 := Lib.hid (SA.out.chg kx)
          have H8 := Lib.hid (HS.out.chg kx (fun _ _ e => e))
          have hp8 : wr.heap.size < w8.heap.size := lt_of_obj o8
          have hbw : b < wr.heap.size := HBW.out
          clear kx k8 MA2 KB KA SA HS OB HBW
          have O8 := Lib.hid o8
          have p0 : w8.cell? ⟨wr.heap.size, 0, none⟩ = some (.int .i64 kind) := cell_of o8 rfl
          have p1 : w8.cell? ⟨wr.heap.size, 1, none⟩ = some (.int .i64 op) := cell_of o8 rfl
          have p2 : w8.cell? ⟨wr.heap.size, 2, none⟩ = some (.slice sa s.length sc) := cell_of o8 rfl
          clear o8
          generalize wr.heap.size = p at *
          cases r with
          | true =>
            go_wp2
            go_ret
            exact ⟨rfl, K8.out⟩
          | false =>
            by_cases hkk : kind ≠ 0 ∧ kind ≠ 1
            · have m0 : (kind != 0) = true := by rw [bne_iff_ne]; exact hkk.1
              have m1 : (kind != 1) = true := by rw [bne_iff_ne]; exact hkk.2
              clear hkk
              go_wp2
              go_roundw
              case rel => exact ⟨k + 1, ver, L, by omega, by omega, by omega, by go_num, Lib.hid ⟨S8.out, K8.out⟩⟩
              case measure => simp [intOf]; omega
            · have hk01 : kind = 0 ∨ kind = 1 := by omega
              clear hkk
              have AL8 := Lib.hid (all_st S8.out)
              have VE := Lib.hid (fun w1 (q : Chg (fun _ => False) w8 w1) => ver_st (S8.out.chg q))
              have HOK := Lib.hid S8.out.ok
              rcases hk01 with rfl | rfl
              case' inl =>
                have AF := Lib.hid (act_add (x := (op, s)) HOK.out)
                have OPC := Lib.hid (fun w1 G (hl : ListAt w1 b 70 G L ver) (hv : SetAt w1 (.slice sa s.length sc) (· < w.heap.size) s) => add_any w1 b _ (op, s) L ver sa s.length sc G _ hl (by omega) hv)
                generalize addE (op, s) L = ec at AF OPC
                generalize addL (op, s) L = L2 at AF OPC
              case' inr =>
                have AF := Lib.hid (act_rem (x := (op, s)) HOK.out)
                have OPC := Lib.hid (fun w1 G (hl : ListAt w1 b 70 G L ver) (hv : SetAt w1 (.slice sa s.length sc) (· < w.heap.size) s) => rem_any w1 b _ (op, s) L ver sa s.length sc G _ hl (by omega) (by have := HOK.out.few; omega) hv)
                generalize remE (op, s) L = ec at AF OPC
                generalize remL (op, s) L = L2 at AF OPC
              all_goals
                go_wp2_with fail
                (with_reducible refine (AL8.out).mono ?_)
                rintro e w9 ⟨va, rfl, hva, k9⟩
                have V9 := Lib.hid (VE.out w9 k9)
                have VA := Lib.hid hva
                obtain ⟨a9, c9, rfl, _, hvm⟩ := hva.shape
                unfold maxLen at hvm
                have K9 := Lib.hid (K8.out.trans k9)
                have S9 := Lib.hid (S8.out.chg k9)
                have H9 := Lib.hid (H8.out.chg k9 (fun _ _ e => e))
                have O9 := Lib.hid (k9.obj (fun e => e) O8.out)
                have hp9 : w8.heap.size ≤ w9.heap.size := k9.size
                clear hva k9 AL8 VE K8 S8 H8 O8 p0 p1 p2
                go_wp2_with fail
                (with_reducible refine (V9.out).mono ?_)
                rintro e w10 ⟨rfl, rfl⟩
                clear V9
                go_wp2
                go_loopw [11, 72] (fun hv jv wr => ∃ (j : Nat), j ≤ L.length ∧ jv = .int .i64 j ∧ hv = .bool (anyE (op, s) (L.take j)) ∧ Hid (Chg (fun _ => False) w9 wr)) (fun _ jv _ => L.length - (intOf jv).toNat)
                case atStart => exact ⟨0, by omega, rfl, rfl, Lib.hid (Chg.refl _ _)⟩
                case round =>
                  obtain ⟨j, hj, rfl, rfl, HJ⟩ := hrel
                  have oj := HJ.out.obj (fun e => e) O9.out
                  have p0 : wr.cell? ⟨p, 0, none⟩ = some (.int .i64 _) := cell_of oj rfl
                  have p1 : wr.cell? ⟨p, 1, none⟩ = some (.int .i64 op) := cell_of oj rfl
                  have p2 : wr.cell? ⟨p, 2, none⟩ = some (.slice sa s.length sc) := cell_of oj rfl
                  clear oj
                  by_cases hjl : j < L.length
                  · obtain ⟨y, hy⟩ : ∃ y, L[j]? = some y := ⟨_, List.getElem?_eq_getElem hjl⟩
                    obtain ⟨gv, ov, sb, sd, rfl, _, e0, e1, ht⟩ := (VA.out.chg HJ.out (fun _ _ e => e)).get hy
                    have kj := chg_alloc (fun _ => False) wr (.cells #[.int .i64 y.1, .slice sb y.2.length sd] 36)
                    have SAM := Lib.hid (esame_any _ (op, s) y sa sb s.length sc y.2.length sd _ _ ((H9.out.chg (HJ.out.trans kj) (fun _ _ e => e)).at_) (ht.at_.chg kj (fun _ _ e => e)))
                    have AN := Lib.hid (anyE_next (x := (op, s)) hy)
                    have KJ := Lib.hid (HJ.out.trans kj)
                    have p1' := cell_chg kj (fun e => e) p1
                    have p2' := cell_chg kj (fun e => e) p2
                    generalize eqB (op, s) y = r at *
                    obtain ⟨oq, t⟩ := y
                    simp only at e0 e1 SAM KJ p1' p2'
                    clear kj ht hy HJ
                    generalize anyE (op, s) (L.take j) = m at *
                    cases m with
                    | true =>
                      rw [Bool.true_or] at AN
                      clear SAM
                      go_wp2
                      go_roundw
                      case rel => exact ⟨j + 1, by omega, by go_num, by rw [AN.out], KJ⟩
                      case measure => simp [intOf]; omega
                    | false =>
                      rw [Bool.false_or] at AN
                      go_wp2_with fail
                      (with_reducible refine (SAM.out).mono ?_)
                      rintro e w11 ⟨rfl, k11⟩
                      have K11 := Lib.hid (KJ.out.trans k11)
                      clear k11 SAM KJ p1 p2 p0 p1' p2'
                      cases r
                      all_goals
                        go_wp2
                        go_roundw
                        case rel => exact ⟨j + 1, by omega, by go_num, by rw [AN.out], K11⟩
                        case measure => simp [intOf]; omega
                  · obtain rfl : j = L.length := by omega
                    rw [List.take_length]
                    obtain ⟨⟨G, gl, gG⟩, gok, gn⟩ := S9.out.chg HJ.out
                    have C := Lib.hid (OPC.out wr G gl (H9.out.chg HJ.out (fun _ _ e => e)))
                    have hwl : w9.heap.size ≤ wr.heap.size := HJ.out.size
                    have ACT := Lib.hid (fun e w12 (h : AddRes wr b 70 G ec L2 ver e w12) => LSt.act gn gG (by omega) AF.out.ok h)
                    have OJ := Lib.hid (HJ.out.obj (fun e => e) O9.out)
                    have VAJ := Lib.hid (VA.out.chg HJ.out (fun _ _ e => e))
                    have KJ := Lib.hid (K9.out.trans HJ.out)
                    have HJ9 := Lib.hid (H9.out.chg HJ.out (fun _ _ e => e))
                    clear gl gG gok OPC S9 H9 O9 VA K9 HJ
                    go_wp2_with fail
                    (with_reducible refine (C.out).mono ?_)
                    rintro e w12 hres
                    have S12 := Lib.hid (ACT.out e w12 hres)
                    obtain ⟨rfl, _, k12⟩ := hres
                    have O12 := Lib.hid (k12.obj (fun e => by omega) OJ.out)
                    have VA12 := Lib.hid (VAJ.out.chg k12 (fun k hk e => by have := hk.1; omega))
                    have K12 := Lib.hid (KJ.out.next k12 (fun x hx e => by omega))
                    have H12 := Lib.hid (HJ9.out.chg k12 (fun x hx e => by omega))
                    have A12 := Lib.hid (all_st S12.out)
                    clear k12 ACT C OJ VAJ KJ p0 p1 p2
                    go_wp2_with fail
                    (with_reducible refine (A12.out).mono ?_)
                    rintro e w13 ⟨vb, rfl, hvb, k13⟩
                    have K13 := Lib.hid (K12.out.trans k13)
                    have S13 := Lib.hid (S12.out.chg k13)
                    have VA13 := Lib.hid (VA12.out.chg k13 (fun _ _ e => e))
                    have O13 := Lib.hid (k13.obj (fun e => e) O12.out)
                    have VB := Lib.hid hvb
                    obtain ⟨b9, d9, rfl, _, hvbm⟩ := hvb.shape
                    unfold maxLen at hvbm
                    have H13 := Lib.hid (H12.out.chg k13 (fun _ _ e => e))
                    clear k13 hvb A12 S12 O12 VA12 K12 H12 HJ9
                    by_cases hec : ec = 0
                    · subst hec
                      have had := AF.out.had rfl
                      have hhas := AF.out.has rfl
                      have hlen := AF.out.len rfl
                      rw [had] at hhas
                      rw [had]
                      have V13 := Lib.hid (fun w1 (q : Chg (fun _ => False) w13 w1) => ver_st (S13.out.chg q))
                      have HHAS := Lib.hid hhas
                      have HLEN := Lib.hid hlen
                      clear had hhas hlen
                      have p0 : w13.cell? ⟨p, 0, none⟩ = some (.int .i64 _) := cell_of O13.out rfl
                      have V := V13.out w13 (Chg.refl _ _)
                      rw [show ((verN 0 ver : Nat) : Int) = (ver : Int) + 1 from by simp [verN]] at V
                      have V := Lib.hid V
                      clear V13
                      go_wp2_with fail
                      (with_reducible refine (V.out).mono ?_)
                      rintro e w14 ⟨rfl, rfl⟩
                      clear V
                      have hL12 : L.length ≤ 12 := HOK.out.few
                      (first
                        | (have gB : ((L2.length : Int) != (L.length : Int) + 1) = false := by rw [bne_eq_false_iff_eq]; have := HLEN.out; omega)
                        | (have gA : ((L2.length : Int) != (L.length : Int) + 1 - 2) = false := by rw [bne_eq_false_iff_eq]; have := HLEN.out; omega))
                      clear p0 HLEN
                      have p0 : w13.cell? ⟨p, 0, none⟩ = some (.int .i64 _) := cell_of O13.out rfl
                      have hOK2 := AF.out.ok.few
                      go_wp2
                      go_loopw [16, 135] (fun hv jv wl => ∃ (j : Nat), j ≤ L2.length ∧ jv = .int .i64 j ∧ hv = .bool (anyE (op, s) (L2.take j)) ∧ Hid (Chg (fun _ => False) w13 wl)) (fun _ jv _ => L2.length - (intOf jv).toNat)
                      case atStart => exact ⟨0, by omega, rfl, rfl, Lib.hid (Chg.refl _ _)⟩
                      case round =>
                        obtain ⟨j, hj, rfl, rfl, HJ⟩ := hrel
                        have oj := HJ.out.obj (fun e => e) O13.out
                        have q1 : wr.cell? ⟨p, 1, none⟩ = some (.int .i64 op) := cell_of oj rfl
                        have q2 : wr.cell? ⟨p, 2, none⟩ = some (.slice sa s.length sc) := cell_of oj rfl
                        clear oj p0
                        by_cases hjl : j < L2.length
                        · obtain ⟨y, hy⟩ : ∃ y, L2[j]? = some y := ⟨_, List.getElem?_eq_getElem hjl⟩
                          obtain ⟨gv, ov, sb, sd, rfl, _, e0, e1, ht⟩ := (VB.out.chg HJ.out (fun _ _ e => e)).get hy
                          have kj := chg_alloc (fun _ => False) wr (.cells #[.int .i64 y.1, .slice sb y.2.length sd] 36)
                          have SAM := Lib.hid (esame_any _ (op, s) y sa sb s.length sc y.2.length sd _ _ ((H13.out.chg (HJ.out.trans kj) (fun _ _ e => e)).at_) (ht.at_.chg kj (fun _ _ e => e)))
                          have AN := Lib.hid (anyE_next (x := (op, s)) hy)
                          have KJ := Lib.hid (HJ.out.trans kj)
                          have q1' := cell_chg kj (fun e => e) q1
                          have q2' := cell_chg kj (fun e => e) q2
                          generalize eqB (op, s) y = r at *
                          obtain ⟨oq, t⟩ := y
                          simp only at e0 e1 SAM KJ q1' q2'
                          clear kj ht hy HJ
                          generalize anyE (op, s) (L2.take j) = m at *
                          cases m with
                          | true =>
                            rw [Bool.true_or] at AN
                            clear SAM
                            go_wp2
                            go_roundw
                            case rel => exact ⟨j + 1, by omega, by go_num, by rw [AN.out], KJ⟩
                            case measure => simp [intOf]; omega
                          | false =>
                            rw [Bool.false_or] at AN
                            go_wp2_with fail
                            (with_reducible refine (SAM.out).mono ?_)
                            rintro e w11 ⟨rfl, k11⟩
                            have K11 := Lib.hid (KJ.out.trans k11)
                            clear k11 SAM KJ q1 q2 q1' q2'
                            cases r
                            all_goals
                              go_wp2
                              go_roundw
                              case rel => exact ⟨j + 1, by omega, by go_num, by rw [AN.out], K11⟩
                              case measure => simp [intOf]; omega
                        · obtain rfl : j = L2.length := by omega
                          rw [List.take_length, HHAS.out]
                          have SF := Lib.hid (show LSt w2 b 70 L2 (ver + 1) wr from S13.out.chg HJ.out)
                          have KF := Lib.hid (K13.out.trans HJ.out)
                          clear HHAS HJ S13 K13 VA13 VB O13 H13 AF HOK
                          go_wp2
                          go_roundw
                          case rel => exact ⟨k + 1, ver + 1, L2, by omega, by omega, by omega, by go_num, Lib.hid ⟨SF.out, KF.out⟩⟩
                          case measure => simp [intOf]; omega
                    · have hneq : (ec != 0) = true := by rw [bne_iff_ne]; exact hec
                      have hb2 := AF.out.bad hec
                      have V13 := Lib.hid (ver_st S13.out)
                      subst hb2
                      have SM2 := same_any w13 _ _ L2 L2 _ _ VB.out VA13.out
                      rw [show sameL L2 L2 = true from decide_eq_true rfl] at SM2
                      have SM2 := Lib.hid SM2
                      rw [show verN ec ver = ver from if_neg hec] at V13 S13
                      clear hec
                      go_wp2_with fail
                      (with_reducible refine (V13.out).mono ?_)
                      rintro e w14 ⟨rfl, rfl⟩
                      clear V13
                      go_wp2_with fail
                      (with_reducible refine (SM2.out).mono ?_)
                      rintro e w14 ⟨rfl, k14⟩
                      have S14 := Lib.hid (S13.out.chg k14)
                      have K14 := Lib.hid (K13.out.trans k14)
                      clear k14 SM2 S13 K13
                      go_wp2
                      go_roundw
                      case rel => exact ⟨k + 1, ver, L2, by omega, by omega, by omega, by go_num, Lib.hid ⟨S14.out, K14.out⟩⟩
                      case measure => simp [intOf]; omega
        · have KF := Lib.hid HI.out.2
          have P3 : (decide ((k : Int) < (A.length : Int)) = true ∧ decide (k < A.length) = true ∧ decide ((k : Int) < 60) = false) ∨ (decide ((k : Int) < (A.length : Int)) = false ∧ decide (k < A.length) = false) := by
            by_cases q : k < A.length
            · exact .inl ⟨decide_eq_true (by omega), decide_eq_true q, decide_eq_false (by omega)⟩
            · exact .inr ⟨decide_eq_false (by omega), decide_eq_false q⟩
          clear hlt HI
          rcases P3 with ⟨q1, q2, q3⟩ | ⟨q1, q2⟩
          all_goals
            go_wp2
            go_ret
            exact ⟨rfl, KF.out⟩
    · have H0 := Lib.hid h0
      clear h0
      go_wp2_with fail
      (with_reducible refine (N1.out).mono ?_)
      rintro e w5 ⟨_, hq, k5⟩
      have e5 := hq H0.out
      subst e5
      have K5 := Lib.hid (K2.out.trans k5)
      clear hq k5 N1
      go_wp2
      go_ret
      exact ⟨rfl, K5.out⟩
end Go.Proofs.Ytbjdndialiddpaa
