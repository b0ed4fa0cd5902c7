/-
  Layer 12: awake, walked.
-/
import Derived.Test.YtdgmjablkdemmaaGreatUAwk
import Derived.Test.YtdgmjablkdemmaaGreatURun2
namespace Go.Proofs.YtdgmjablkdemmaaGreat
open Go.RowKit Go.Maps

theorem sets_one {w : World} {g : Nat} {G : Nat → Prop} {c : BCert} (h : CertAt w (.slice (some ⟨g, 0, none⟩) 1 1) (fun k => k = g) c) (hl : c.fr.length = 1) (hg : G g) : Sets7 w G [(c, .slice (some ⟨g, 0, none⟩) 1 1)] := fun p hp => by
  rw [List.mem_singleton] at hp
  subst hp
  refine ⟨some ⟨g, 0, none⟩, 1, by simp only; rw [hl], ?_⟩
  simp only
  rw [hl]
  exact h.up (fun k hk => by rw [hk]; exact hg)
set_option maxHeartbeats 8000000 in
set_option maxRecDepth 100000 in
theorem awake12_any (w : World) : Calls Tryz.prog 27 #[] w fun e w' => e = .returned (.bool true) ∧ Chg (fun _ => False) w w' := by
  obtain ⟨y, hy⟩ : ∃ y, y = nB := ⟨_, rfl⟩
  obtain ⟨x1, hx1⟩ : ∃ y, y = kB 1 := ⟨_, rfl⟩
  obtain ⟨x2, hx2⟩ : ∃ y, y = kB 2 := ⟨_, rfl⟩
  obtain ⟨x3, hx3⟩ : ∃ y, y = kB 3 := ⟨_, rfl⟩
  obtain ⟨x5, hx5⟩ : ∃ y, y = kB 5 := ⟨_, rfl⟩
  have sz : y.size ≤ 100 ∧ x1.size ≤ 100 ∧ x2.size ≤ 100 ∧ x3.size ≤ 100 ∧ x5.size ≤ 100 := by subst hy hx1 hx2 hx3 hx5; decide +kernel
  obtain ⟨zy, z1, z2, z3, z5⟩ := sz
  have RUN := Lib.hid (show acceptE [(y, x1)] [sc12 2 x3 y, sc12 1 x2 y, sc12 4 x5 y] 9 = .ok ⟨[1, 0], [(y, x1), (y, x2), (y, x3)]⟩ by subst hy hx1 hx2 hx3 hx5; exact aw12_run)
  have BAD := Lib.hid (show acceptE [(y, x1)] [noC] 9 = .error 2 by subst hy hx1; exact aw12_bad)
  have OVER := Lib.hid (show acceptE [(y, x1)] [sc12 2 x3 y, sc12 1 x2 y, sc12 4 x5 y] 1 = .error 12 by subst hy hx1 hx2 hx3 hx5; exact aw12_over)
  have BACK := Lib.hid (show backedE [(y, x1)] 9 (sc12 1 x2 y) = (true, 0) by subst hy hx1 hx2; exact aw12_back)
  have OF := Lib.hid (fun w => of_one w 24577 24577 rfl y (by decide) (by rw [hy]; rfl))
  have KW1 := Lib.hid (fun w => kword_any w 1 1 rfl x1 (by decide) (by rw [hx1]; rfl))
  have KW3 := Lib.hid (fun w => kword_any w 3 3 rfl x3 (by decide) (by rw [hx3]; rfl))
  have SA1 := Lib.hid (fun w p q h1 h2 => says_any w p q 2 3 2 3 rfl rfl x3 y (by decide) (by decide) (by rw [hx3]; rfl) z3 zy h1 h2)
  have SA2 := Lib.hid (fun w p q h1 h2 => says_any w p q 1 2 1 2 rfl rfl x2 y (by decide) (by decide) (by rw [hx2]; rfl) z2 zy h1 h2)
  have SA3 := Lib.hid (fun w p q h1 h2 => says_any w p q 4 5 4 5 rfl rfl x5 y (by decide) (by decide) (by rw [hx5]; rfl) z5 zy h1 h2)
  clear hy hx1 hx2 hx3 hx5
  have e1 : ∀ args w, (callFunc 51 args).run Tryz.prog w = .ok (.enter 51 args) w := enters_of Tryz.func51 (by kernel_rfl) rfl
  have e2 : ∀ args w, (callFunc 52 args).run Tryz.prog w = .ok (.enter 52 args) w := enters_of Tryz.func52 (by kernel_rfl) rfl
  have hmf : ∀ (fn : Fn) (first cap : Array Value) (w : World), (Instr.makeFunc fn first cap).run Tryz.prog w = .ok (.func fn first cap) w := fun _ _ _ _ => rfl
  have oz := obj_alloc_new w (.cells #[.nilFunc] 93)
  have hst : (store (⟨w.heap.size, 0, none⟩ : Addr) (.func (.func 51) #[] #[])).run Tryz.prog (w.alloc (.cells #[.nilFunc] 93)) = .ok () ((w.alloc (.cells #[.nilFunc] 93)).setCell ⟨w.heap.size, 0, none⟩ (.func (.func 51) #[] #[])) := by
    rw [run_store Tryz.prog _ _ _ _ rfl, cell_of (o := 0) oz rfl]
    simp [frozen_of (o := 0) oz]
  have ka := chg_alloc (fun _ => False) w (.cells #[.func (.func 51) #[] #[]] 93)
  have KA := Lib.hid ka
  have OA := Lib.hid (obj_alloc_new w (.cells #[.func (.func 51) #[] #[]] 93))
  have hs0 : (w.alloc (.cells #[.func (.func 51) #[] #[]] 93)).heap.size = w.heap.size + 1 := by rw [World.size_alloc]
  have O1 := OF.out (w.alloc (.cells #[.func (.func 51) #[] #[]] 93))
  rw [hs0] at O1
  have O1 := Lib.hid O1
  clear oz OF ka
  go_enter Tryz.func27, Tryz.ntmps27
  go_wp2_with fail
  generalize w.alloc (.cells #[.func (.func 51) #[] #[]] 93) = wa at *
  (with_reducible refine (O1.out).mono ?_)
  rintro e w1 ⟨rfl, k1⟩
  have kb := chg_alloc (fun _ => False) w1 (.cells #[.string y] 23)
  have K1 := Lib.hid ((KA.out.trans k1).trans kb)
  have P1 := Lib.hid ((k1.trans kb).obj (fun e => e) OA.out)
  have Q1 := Lib.hid (obj_alloc_new w1 (.cells #[.string y] 23))
  have hs1 : w.heap.size < w1.heap.size := by have := k1.size; omega
  have c1 := cell_of (o := 0) P1.out rfl
  have c2 := cell_of (o := 0) Q1.out rfl
  clear O1 k1 kb KA OA
  go_wp2_with fail
  generalize hq : w1.heap.size = q at *
  generalize w1.alloc (.cells #[.string y] 23) = wb at *
  have d1 : wb.drew.cell? ⟨w.heap.size, 0, none⟩ = some (.func (.func 51) #[] #[]) := c1
  have d2 : wb.drew.cell? ⟨q, 0, none⟩ = some (.string y) := c2
  refine wp_region_plan (N := 119) [.rd [0, 1], .ef 2, .rd [3], .ef 4, .rd [5]] (fun w' => w'.cell? ⟨w.heap.size, 0, none⟩ = some (.func (.func 51) #[] #[]) ∧ w'.cell? ⟨q, 0, none⟩ = some (.string y)) (by kernel_rfl) (by kernel_rfl) (by kernel_rfl) (by kernel_rfl) (Nat.le_of_ble_eq_true rfl) ⟨d1, d2⟩ ?_
  refine plan_rd (A := ?A1) ?h1 ?h2
  case h1 =>
    rintro w' ⟨q0, q1⟩ K hK
    simp only [opsAt, List.filterMap_cons, List.filterMap_nil, List.getElem?_toArray, List.getElem?_cons_succ, List.getElem?_cons_zero]
    repeat still_step
    refine wpStill_nil ?_
    exact hK
  have K2 := Lib.hid (K1.out.drew)
  have P2 := Lib.hid ((chg_drew (fun _ => False) wb).obj (fun e => e) P1.out)
  have Q2 := Lib.hid ((chg_drew (fun _ => False) wb).obj (fun e => e) Q1.out)
  clear c1 c2 K1 P1 Q1
  generalize wb.drew = wd at *
  refine plan_ef rfl ?_
  go_wp2_with fail
  (with_reducible refine (KW1.out _).mono ?_)
  rintro e w2 ⟨rfl, k2⟩
  have d3 := cell_chg k2 (fun e => e) d1
  have d4 := cell_chg k2 (fun e => e) d2
  have ka := chg_alloc (fun _ => False) w2 (.cells #[.string y, .string x1] 73)
  have d5 := cell_chg ka (fun e => e) d3
  have d6 := cell_chg ka (fun e => e) d4
  have K3 := Lib.hid ((K2.out.trans k2).trans ka)
  have P3 := Lib.hid ((k2.trans ka).obj (fun e => e) P2.out)
  have Q3 := Lib.hid ((k2.trans ka).obj (fun e => e) Q2.out)
  have OR3 := Lib.hid (show (w2.alloc (.cells #[.string y, .string x1] 73)).ownsRow w2.heap.size 73 2 (.slice (some ⟨w2.heap.size, 0, none⟩) 1 1) 1 (ruleCells [(y, x1)]) from own_lit rfl (by decide))
  clear K2 P2 Q2 k2 ka d1 d2 KW1
  go_wp2_with fail
  refine ⟨⟨d3, d4⟩, ?_⟩
  refine plan_rd (A := ?A2) ?h3 ?h4
  case h3 =>
    intro w' hS K hK
    clear hS
    simp only [opsAt, List.filterMap_cons, List.filterMap_nil, List.getElem?_toArray, List.getElem?_cons_succ, List.getElem?_cons_zero]
    repeat still_step
    refine wpStill_nil ?_
    exact hK
  refine plan_ef rfl ?_
  go_wp2_with fail
  refine ⟨⟨d5, d6⟩, ?_⟩
  refine plan_rd (A := ?A3) ?h5 ?h6
  case h5 =>
    intro w' hS K hK
    clear hS
    simp only [opsAt, List.filterMap_cons, List.filterMap_nil, List.getElem?_toArray, List.getElem?_cons_succ, List.getElem?_cons_zero]
    repeat still_step
    refine wpStill_nil ?_
    exact hK
  refine plan_nil ?_
  clear d3 d4 d5 d6
  generalize hgr : w2.heap.size = gr at *
  generalize w2.alloc (.cells #[.string y, .string x1] 73) = w3 at *
  have S1 := Lib.hid (SA1.out w3 w.heap.size q P3.out Q3.out)
  clear SA1 hgr
  go_wp2_with fail
  (with_reducible refine (S1.out).mono ?_)
  rintro e w4 ⟨g1, he, hc1, _, hg1, k4⟩
  change e = .returned (.agg #[.int .i64 6, .int .u16 8194, .string x3, .slice (some ⟨g1, 0, none⟩) 1 1, .int .i64 0, .int .i64 0, .int .i64 0]) at he
  subst he
  have K4 := Lib.hid (K3.out.trans k4)
  have P4 := Lib.hid (k4.obj (fun e => e) P3.out)
  have Q4 := Lib.hid (k4.obj (fun e => e) Q3.out)
  have OR4 := Lib.hid (own_chg OR3.out k4 (fun _ _ e => e))
  have C14 := Lib.hid hc1
  have S2 := Lib.hid (SA2.out w4 w.heap.size q P4.out Q4.out)
  clear SA2 S1 K3 P3 Q3 OR3 hc1 k4
  go_wp2_with fail
  (with_reducible refine (S2.out).mono ?_)
  rintro e w5 ⟨g2, he, hc2, _, hg2, k5⟩
  change e = .returned (.agg #[.int .i64 6, .int .u16 8193, .string x2, .slice (some ⟨g2, 0, none⟩) 1 1, .int .i64 0, .int .i64 0, .int .i64 0]) at he
  subst he
  have K5 := Lib.hid (K4.out.trans k5)
  have P5 := Lib.hid (k5.obj (fun e => e) P4.out)
  have Q5 := Lib.hid (k5.obj (fun e => e) Q4.out)
  have OR5 := Lib.hid (own_chg OR4.out k5 (fun _ _ e => e))
  have C15 := Lib.hid (C14.out.chg k5 (fun _ _ e => e))
  have C25 := Lib.hid hc2
  have hg15 := Nat.lt_of_lt_of_le hg1 k5.size
  have S3 := Lib.hid (SA3.out w5 w.heap.size q P5.out Q5.out)
  clear SA3 S2 K4 P4 Q4 OR4 hc2 k5 C14
  go_wp2_with fail
  (with_reducible refine (S3.out).mono ?_)
  rintro e w6 ⟨g3, he, hc3, _, hg3, k6⟩
  change e = .returned (.agg #[.int .i64 6, .int .u16 8196, .string x5, .slice (some ⟨g3, 0, none⟩) 1 1, .int .i64 0, .int .i64 0, .int .i64 0]) at he
  subst he
  obtain ⟨PP, hPP⟩ : ∃ PP : List (BCert × Value), PP = [(sc12 2 x3 y, .slice (some ⟨g1, 0, none⟩) 1 1), (sc12 1 x2 y, .slice (some ⟨g2, 0, none⟩) 1 1), (sc12 4 x5 y, .slice (some ⟨g3, 0, none⟩) 1 1)] := ⟨_, rfl⟩
  have kc := chg_alloc (fun _ => False) w6 (.cells #[.int .i64 6, .int .u16 8194, .string x3, .slice (some ⟨g1, 0, none⟩) 1 1, .int .i64 0, .int .i64 0, .int .i64 0, .int .i64 6, .int .u16 8193, .string x2, .slice (some ⟨g2, 0, none⟩) 1 1, .int .i64 0, .int .i64 0, .int .i64 0, .int .i64 6, .int .u16 8196, .string x5, .slice (some ⟨g3, 0, none⟩) 1 1, .int .i64 0, .int .i64 0, .int .i64 0] 34)
  have OC7 := Lib.hid (obj_alloc_new w6 (.cells #[.int .i64 6, .int .u16 8194, .string x3, .slice (some ⟨g1, 0, none⟩) 1 1, .int .i64 0, .int .i64 0, .int .i64 0, .int .i64 6, .int .u16 8193, .string x2, .slice (some ⟨g2, 0, none⟩) 1 1, .int .i64 0, .int .i64 0, .int .i64 0, .int .i64 6, .int .u16 8196, .string x5, .slice (some ⟨g3, 0, none⟩) 1 1, .int .i64 0, .int .i64 0, .int .i64 0] 34))
  have OW7 : (w6.alloc (.cells #[.int .i64 6, .int .u16 8194, .string x3, .slice (some ⟨g1, 0, none⟩) 1 1, .int .i64 0, .int .i64 0, .int .i64 0, .int .i64 6, .int .u16 8193, .string x2, .slice (some ⟨g2, 0, none⟩) 1 1, .int .i64 0, .int .i64 0, .int .i64 0, .int .i64 6, .int .u16 8196, .string x5, .slice (some ⟨g3, 0, none⟩) 1 1, .int .i64 0, .int .i64 0, .int .i64 0] 34)).ownsRow w6.heap.size 34 7 (.slice (some ⟨w6.heap.size, 0, none⟩) 3 3) PP.length (pcellsL PP) := by
    subst hPP
    exact own_lit rfl (by decide)
  have K7 := Lib.hid ((K5.out.trans k6).trans kc)
  have P7 := Lib.hid ((k6.trans kc).obj (fun e => e) P5.out)
  have Q7 := Lib.hid ((k6.trans kc).obj (fun e => e) Q5.out)
  have OR7 := Lib.hid (own_chg OR5.out (k6.trans kc) (fun _ _ e => e))
  have C17 := Lib.hid (C15.out.chg (k6.trans kc) (fun _ _ e => e))
  have C27 := Lib.hid (C25.out.chg (k6.trans kc) (fun _ _ e => e))
  have C37 := Lib.hid (hc3.chg kc (fun _ _ e => e))
  have hkc := kc.size
  have hk6 := k6.size
  have hz7 : w6.heap.size < (w6.alloc (.cells #[.int .i64 6, .int .u16 8194, .string x3, .slice (some ⟨g1, 0, none⟩) 1 1, .int .i64 0, .int .i64 0, .int .i64 0, .int .i64 6, .int .u16 8193, .string x2, .slice (some ⟨g2, 0, none⟩) 1 1, .int .i64 0, .int .i64 0, .int .i64 0, .int .i64 6, .int .u16 8196, .string x5, .slice (some ⟨g3, 0, none⟩) 1 1, .int .i64 0, .int .i64 0, .int .i64 0] 34)).heap.size := by rw [World.size_alloc]; omega
  clear K5 P5 Q5 OR5 C15 C25 hc3 k6 kc S3
  have OW7 := Lib.hid OW7
  go_wp2_with fail
  generalize hw7 : w6.alloc (.cells #[.int .i64 6, .int .u16 8194, .string x3, .slice (some ⟨g1, 0, none⟩) 1 1, .int .i64 0, .int .i64 0, .int .i64 0, .int .i64 6, .int .u16 8193, .string x2, .slice (some ⟨g2, 0, none⟩) 1 1, .int .i64 0, .int .i64 0, .int .i64 0, .int .i64 6, .int .u16 8196, .string x5, .slice (some ⟨g3, 0, none⟩) 1 1, .int .i64 0, .int .i64 0, .int .i64 0] 34) = w7 at *
  have RA := Lib.hid (show RunArgs w7 (some ⟨gr, 0, none⟩) [(y, x1)] 1 (.slice (some ⟨w6.heap.size, 0, none⟩) 3 3) PP (fun k => k < w7.heap.size) from
    ⟨(rulesAt_blk OR7.out (fun r hr => by rw [List.mem_singleton] at hr; subst hr; unfold maxLen; simp only; omega)).imp (fun k hk => (OR7.out.lt k hk).2), (fun e => by cases e), (by simp), (fun _ r hr => by rw [List.mem_singleton] at hr; subst hr; simp only; omega),
      (certsAt_own OW7.out (G := fun k => k < w7.heap.size) (by
        subst hPP
        exact (sets_one C17.out rfl (by omega)).append ((sets_one C27.out rfl (by omega)).append (sets_one C37.out rfl (by omega))))).up (fun k hk => hk.elim id (fun e => (OW7.out.lt k e).2)), (by rw [hPP]; simp), fun k hk => hk⟩)
  have RUN7 := Lib.hid (show Calls Tryz.prog 29 #[.slice (some ⟨gr, 0, none⟩) 1 1, .slice (some ⟨w6.heap.size, 0, none⟩) 3 3, .int .i64 9] w7 (RunOk w7 ⟨[1, 0], [(y, x1), (y, x2), (y, x3)]⟩) from run_ok RA.out (by subst hPP; exact RUN.out))
  have OVER7 := Lib.hid (fun w8 (k : Chg (fun _ => False) w7 w8) => (show Calls Tryz.prog 29 #[.slice (some ⟨gr, 0, none⟩) 1 1, .slice (some ⟨w6.heap.size, 0, none⟩) 3 3, .int .i64 1] w8 (RunErr w8 12) from run_err (RA.out.chg k) (by subst hPP; exact OVER.out)))
  have BADW := Lib.hid (fun w8 (k : Chg (fun _ => False) w7 w8) => (show Calls Tryz.prog 29 #[.slice (some ⟨gr, 0, none⟩) 1 1, .slice (some ⟨w8.heap.size, 0, none⟩) 1 1, .int .i64 9] (w8.alloc (.cells #[.int .i64 0, .int .u16 0, .string ⟨#[]⟩, .slice none 0 0, .int .i64 0, .int .i64 0, .int .i64 0] 34)) (RunErr _ 2) from by
    have h := RA.out.chg (k.alloc (.cells #[.int .i64 0, .int .u16 0, .string ⟨#[]⟩, .slice none 0 0, .int .i64 0, .int .i64 0, .int .i64 0] 34))
    have ho : (w8.alloc (.cells #[.int .i64 0, .int .u16 0, .string ⟨#[]⟩, .slice none 0 0, .int .i64 0, .int .i64 0, .int .i64 0] 34)).ownsRow w8.heap.size 34 7 (.slice (some ⟨w8.heap.size, 0, none⟩) 1 1) [(noC, Value.slice none 0 0)].length (pcellsL [(noC, .slice none 0 0)]) := own_lit rfl (by decide)
    have hsz : w8.heap.size < (w8.alloc (.cells #[.int .i64 0, .int .u16 0, .string ⟨#[]⟩, .slice none 0 0, .int .i64 0, .int .i64 0, .int .i64 0] 34)).heap.size := by rw [World.size_alloc]; omega
    have hle := k.size
    refine run_err (G := fun k => k < (w8.alloc (.cells #[.int .i64 0, .int .u16 0, .string ⟨#[]⟩, .slice none 0 0, .int .i64 0, .int .i64 0, .int .i64 0] 34)).heap.size) (P := [(noC, Value.slice none 0 0)]) ⟨h.rules.imp (fun k hk => by omega), h.nil, h.many, h.size, (certsAt_own ho (G := fun _ => False) (fun p hp => ?_)).up (fun k hk => hk.elim (fun e => e.elim) (fun e => (ho.lt k e).2)), (by simp), fun k hk => hk⟩ BAD.out
    rw [List.mem_singleton] at hp
    subst hp
    exact ⟨none, 0, rfl, ⟨⟨none, 0, rfl, by decide, fun j x hj => by cases hj⟩, fun n c e => by cases e; exact ⟨rfl, rfl⟩⟩, by decide, by decide⟩))
  have BACK7 := Lib.hid (fun w8 (k : Chg (fun _ => False) w7 w8) => (show Calls Tryz.prog 33 #[.slice (some ⟨gr, 0, none⟩) 1 1, .agg #[.int .i64 6, .int .u16 8193, .string x2, .slice (some ⟨g2, 0, none⟩) 1 1, .int .i64 0, .int .i64 0, .int .i64 0], .int .i64 9] w8 (BackedRes w8 (true, 0)) from by
    rw [← BACK.out]
    exact backed_any w8 (some ⟨gr, 0, none⟩) [(y, x1)] 1 9 (sc12 1 x2 y) (some ⟨g2, 0, none⟩) 1 (fun k => k = g2) ((RA.out.chg k).rules.imp (fun j hj => by have := k.size; omega)) (.inl ⟨by simp, fun r hr => by rw [List.mem_singleton] at hr; subst hr; simp only; omega⟩) (C27.out.chg k (fun _ _ e => e)) (fun j hj => by have := k.size; omega)))
  clear RA RUN OVER BAD BACK C17 C27 C37 OR7 OW7 hPP hw7
  generalize w6.heap.size = gc at *
  (with_reducible refine (RUN7.out).mono ?_)
  rintro e w8 ⟨oa, va, oc, vc, he, ho8, hr8, k8⟩
  change e = .returned (.tuple #[.agg #[.slice oa 2 oc, .slice va 3 vc], .int .i64 0]) at he
  subst he
  change w8.ownsRow w7.heap.size 3 1 (.slice oa 2 oc) 2 (ints [1, 0]) at ho8
  change w8.ownsRow w7.heap.size 73 2 (.slice va 3 vc) 3 (ruleCells [(y, x1), (y, x2), (y, x3)]) at hr8
  obtain ⟨go, rfl⟩ := own_some ho8 (by decide)
  obtain ⟨gv, rfl⟩ := own_some hr8 (by decide)
  have ka := chg_alloc (fun _ => False) w8 (.cells #[.slice (some ⟨go, 0, none⟩) 2 oc, .slice (some ⟨gv, 0, none⟩) 3 vc] 61)
  have D9 := Lib.hid (k8.trans ka)
  have K9 := Lib.hid ((K7.out.trans k8).trans ka)
  have RO9 := Lib.hid (obj_alloc_new w8 (.cells #[.slice (some ⟨go, 0, none⟩) 2 oc, .slice (some ⟨gv, 0, none⟩) 3 vc] 61))
  have P9 := Lib.hid ((k8.trans ka).obj (fun e => e) P7.out)
  have Q9 := Lib.hid ((k8.trans ka).obj (fun e => e) Q7.out)
  have ORD9 := Lib.hid (own_chg ho8 ka (fun _ _ e => e))
  have RUL9 := Lib.hid (own_chg hr8 ka (fun _ _ e => e))
  have q9 := (k8.trans ka).obj (fun e => e) OC7.out
  have m0 := cell_of (o := 7) q9 rfl
  have m1 := cell_of (o := 8) q9 rfl
  have m2 := cell_of (o := 9) q9 rfl
  have m3 := cell_of (o := 10) q9 rfl
  have m4 := cell_of (o := 11) q9 rfl
  have m5 := cell_of (o := 12) q9 rfl
  have m6 := cell_of (o := 13) q9 rfl
  clear RUN7 ho8 hr8 k8 ka K7 P7 Q7 OC7 q9
  go_wp2_with fail
  clear m0 m1 m2 m3 m4 m5 m6
  generalize hro : w8.heap.size = ro at *
  generalize w8.alloc (.cells #[.slice (some ⟨go, 0, none⟩) 2 oc, .slice (some ⟨gv, 0, none⟩) 3 vc] 61) = w9 at *
  clear hro
  have FACTS := Lib.hid (fun (W : World) (k : Chg (fun _ => False) w9 W) => And.intro (show W.cell? ⟨w.heap.size, 0, none⟩ = some (.func (.func 51) #[] #[]) from cell_of (o := 0) (k.obj (fun e => e) P9.out) rfl) (And.intro (show W.cell? ⟨q, 0, none⟩ = some (.string y) from cell_of (o := 0) (k.obj (fun e => e) Q9.out) rfl)
    (And.intro (show W.cell? ⟨ro, 0, none⟩ = some (.slice (some ⟨go, 0, none⟩) 2 oc) from cell_of (o := 0) (k.obj (fun e => e) RO9.out) rfl) (And.intro (show W.cell? ⟨ro, 1, none⟩ = some (.slice (some ⟨gv, 0, none⟩) 3 vc) from cell_of (o := 1) (k.obj (fun e => e) RO9.out) rfl)
    (And.intro (show W.cell? ⟨go, 0, none⟩ = some (.int .i64 1) from (own_chg ORD9.out k (fun _ _ e => e)).cellAt (j := 0) (by decide)) (And.intro (show W.cell? ⟨go, 1, none⟩ = some (.int .i64 0) from (own_chg ORD9.out k (fun _ _ e => e)).cellAt (j := 1) (by decide))
    (And.intro (show W.cell? ⟨gv, 4, none⟩ = some (.string y) from (own_chg RUL9.out k (fun _ _ e => e)).cellAt (j := 4) (by decide)) (show W.cell? ⟨gv, 5, none⟩ = some (.string x3) from (own_chg RUL9.out k (fun _ _ e => e)).cellAt (j := 5) (by decide)))))))))
  have HAS0 := Lib.hid (fun (W : World) (k : Chg (fun _ => False) w9 W) => (show Calls Tryz.prog 35 #[.agg #[.slice (some ⟨go, 0, none⟩) 2 oc, .slice (some ⟨gv, 0, none⟩) 3 vc], .int .i64 0] W fun e w' => e = .returned (.bool true) ∧ Chg (fun _ => False) W w' from has_own (own_chg ORD9.out k (fun _ _ e => e)) 0 0 rfl))
  have HAS2 := Lib.hid (fun (W : World) (k : Chg (fun _ => False) w9 W) => (show Calls Tryz.prog 35 #[.agg #[.slice (some ⟨go, 0, none⟩) 2 oc, .slice (some ⟨gv, 0, none⟩) 3 vc], .int .i64 2] W fun e w' => e = .returned (.bool false) ∧ Chg (fun _ => False) W w' from has_own (own_chg ORD9.out k (fun _ _ e => e)) 2 2 rfl))
  have B9 := Lib.hid (BACK7.out w9 D9.out)
  clear BACK7 P9 Q9 RO9 ORD9 RUL9
  (with_reducible refine (B9.out).mono ?_)
  rintro e w10 ⟨rfl, k10⟩
  have E10 := Lib.hid k10
  have D10 := Lib.hid (D9.out.trans k10)
  have BW := Lib.hid (BADW.out w10 D10.out)
  have kz := chg_alloc (fun _ => False) w10 (.cells #[.int .i64 0, .int .u16 0, .string ⟨#[]⟩, .slice none 0 0, .int .i64 0, .int .i64 0, .int .i64 0] 34)
  have E11 := Lib.hid (E10.out.trans kz)
  have D11 := Lib.hid (D10.out.trans kz)
  clear B9 k10 BADW D9 kz
  go_wp2_with fail
  (with_reducible refine (BW.out).mono ?_)
  rintro e w11 ⟨_, rfl, k11⟩
  have kr := chg_alloc (fun _ => False) w11 (.cells #[.slice none 0 0, .slice none 0 0] 61)
  have E12 := Lib.hid ((E11.out.trans k11).trans kr)
  have D12 := Lib.hid ((D11.out.trans k11).trans kr)
  clear BW k11 kr D10 E10 E11 D11
  have OV := Lib.hid (OVER7.out _ D12.out)
  clear OVER7 D12
  go_wp2_with fail
  generalize w11.alloc (.cells #[.slice none 0 0, .slice none 0 0] 61) = w12 at *
  (with_reducible refine (OV.out).mono ?_)
  rintro e w13 ⟨_, rfl, k13⟩
  have kr := chg_alloc (fun _ => False) w13 (.cells #[.slice none 0 0, .slice none 0 0] 61)
  have E14 := Lib.hid ((E12.out.trans k13).trans kr)
  clear OV k13 kr E12
  go_wp2_with fail
  generalize w13.alloc (.cells #[.slice none 0 0, .slice none 0 0] 61) = w14 at *
  have g1 : (y.toList == y.toList) = true := by simp
  have g2 : (x3.toList == x3.toList) = true := by simp
  have fa := FACTS.out w14.drew E14.out.drew
  refine wp_region_plan (N := 119) [.rd [0, 1, 2, 3, 4, 5, 6, 7, 8, 9, 10, 11, 12, 13, 14, 15, 16, 17, 18, 19, 20, 21, 22, 23, 24, 25, 26, 27, 28, 29, 30, 31, 32, 33, 34], .ef 35, .rd [36, 37, 38, 39, 40, 41, 42, 43, 44, 45, 46, 47, 48, 49, 50, 51, 52, 53, 54, 55], .ef 56, .rd [57, 58, 59], .ef 60, .rd [61, 62, 63]] (fun w' => w'.cell? ⟨w.heap.size, 0, none⟩ = some (.func (.func 51) #[] #[]) ∧ w'.cell? ⟨q, 0, none⟩ = some (.string y) ∧ w'.cell? ⟨ro, 0, none⟩ = some (.slice (some ⟨go, 0, none⟩) 2 oc) ∧ w'.cell? ⟨ro, 1, none⟩ = some (.slice (some ⟨gv, 0, none⟩) 3 vc) ∧ w'.cell? ⟨go, 0, none⟩ = some (.int .i64 1) ∧ w'.cell? ⟨go, 1, none⟩ = some (.int .i64 0) ∧ w'.cell? ⟨gv, 4, none⟩ = some (.string y) ∧ w'.cell? ⟨gv, 5, none⟩ = some (.string x3)) (by kernel_rfl) (by kernel_rfl) (by kernel_rfl) (by kernel_rfl) (Nat.le_of_ble_eq_true rfl) fa ?_
  refine plan_rd (A := ?B1) ?i1 ?i2
  case i1 =>
    rintro w' ⟨f1, f2, r0, r1, o0, o1, v4, v5⟩ K hK
    simp only [opsAt, List.filterMap_cons, List.filterMap_nil, List.getElem?_toArray, List.getElem?_cons_succ, List.getElem?_cons_zero]
    repeat still_step
    refine wpStill_nil ?_
    exact hK
  clear fa
  have E15 := Lib.hid (E14.out.drew)
  have K15 := Lib.hid (K9.out.trans E15.out)
  clear E14 K9
  generalize w14.drew = w15 at *
  refine plan_ef rfl ?_
  go_wp2_with fail
  (with_reducible refine (KW3.out _).mono ?_)
  rintro e w16 ⟨rfl, k16⟩
  have E16 := Lib.hid (E15.out.trans k16)
  have K16 := Lib.hid (K15.out.trans k16)
  clear k16 E15 K15 KW3
  go_wp2_with fail
  refine ⟨FACTS.out _ E16.out, ?_⟩
  refine plan_rd (A := ?B2) ?i3 ?i4
  case i3 =>
    rintro w' ⟨f1, f2, r0, r1, o0, o1, v4, v5⟩ K hK
    simp only [opsAt, List.filterMap_cons, List.filterMap_nil, List.getElem?_toArray, List.getElem?_cons_succ, List.getElem?_cons_zero]
    repeat still_step
    refine wpStill_nil ?_
    exact hK
  refine plan_ef rfl ?_
  have H0 := Lib.hid (HAS0.out _ E16.out)
  clear HAS0
  go_wp2_with fail
  (with_reducible refine (H0.out).mono ?_)
  rintro e w17 ⟨rfl, k17⟩
  have E17 := Lib.hid (E16.out.trans k17)
  have K17 := Lib.hid (K16.out.trans k17)
  clear k17 E16 K16 H0
  go_wp2_with fail
  refine ⟨FACTS.out _ E17.out, ?_⟩
  refine plan_rd (A := ?B3) ?i5 ?i6
  case i5 =>
    rintro w' ⟨f1, f2, r0, r1, o0, o1, v4, v5⟩ K hK
    simp only [opsAt, List.filterMap_cons, List.filterMap_nil, List.getElem?_toArray, List.getElem?_cons_succ, List.getElem?_cons_zero]
    repeat still_step
    refine wpStill_nil ?_
    exact hK
  refine plan_ef rfl ?_
  have H2 := Lib.hid (HAS2.out _ E17.out)
  clear HAS2
  go_wp2_with fail
  (with_reducible refine (H2.out).mono ?_)
  rintro e w18 ⟨rfl, k18⟩
  have E18 := Lib.hid (E17.out.trans k18)
  have K18 := Lib.hid (K17.out.trans k18)
  clear k18 E17 K17 H2
  go_wp2_with fail
  refine ⟨FACTS.out _ E18.out, ?_⟩
  refine plan_rd (A := ?B4) ?i7 ?i8
  case i7 =>
    intro w' hS K hK
    clear hS
    simp only [opsAt, List.filterMap_cons, List.filterMap_nil, List.getElem?_toArray, List.getElem?_cons_succ, List.getElem?_cons_zero]
    repeat still_step
    refine wpStill_nil ?_
    exact hK
  refine plan_nil ?_
  clear FACTS
  go_wp2
  go_ret
  exact ⟨rfl, K18.out⟩
end Go.Proofs.YtdgmjablkdemmaaGreat
