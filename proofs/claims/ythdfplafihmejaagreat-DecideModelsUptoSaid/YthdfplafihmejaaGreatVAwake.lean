/-
  Layer 17: awake, walked.
-/
import Derived.Test.YthdfplafihmejaaGreatVAwkP
import Derived.Test.YthdfplafihmejaaGreatVWrap
import Derived.Test.YthdfplafihmejaaGreatVCheck
import Derived.Test.YthdfplafihmejaaGreatCLike
import Derived.Test.YthdfplafihmejaaGreatRHelp
namespace Go.Proofs.YthdfplafihmejaaGreat
open Go.RowKit Go.Maps

theorem kword17_any (w : World) (i : Nat) (z : Int) (hz : z = i) (x : ByteArray) (hi : i < 100) (hx : (⟨(ofAtoms [8192 + i]).toArray⟩ : ByteArray) = x) : Calls Tryz.prog 29 #[.int .i64 z] w fun e w' => e = .returned (.string x) ∧ Chg (fun _ => False) w w' := by
 subst hz
 have w1 : IntKind.i64.wrap (8192 + (i : Int)) = ((8192 + i : Nat) : Int) := by rw [IntKind.wrap_i64]; omega
 have w2 : IntKind.u16.wrap ((8192 + i : Nat) : Int) = ((8192 + i : Nat) : Int) := by show ((8192 + i : Nat) : Int) % 65536 = _; omega
 have OF := Lib.hid (of_one w (8192 + i) _ rfl x (by omega) hx)
 clear hx
 go_enter Tryz.func29, Tryz.ntmps29
 generalize 8192 + i = n at *
 go_wp2_with fail
 (with_reducible refine (OF.out).mono ?_)
 rintro e w2 ⟨rfl, k2⟩
 go_wp2
 go_ret
 exact ⟨rfl, k2⟩
theorem ents_one {w : World} {b : Nat} {op : Int} {sv : Value} {l : List ByteArray} {G : Nat → Prop} (ho : w.heap[b]? = some (.cells #[.int .i64 op, sv] 56 (0, 0))) (hs : SetAt w sv G l) (hb : G b) : EntsAt w (.slice (some ⟨b, 0, none⟩) 1 1) G [(op, l)] := by
 refine ⟨[(op, sv)], some ⟨b, 0, none⟩, 1, rfl, by simp, by simp [maxLen], (fun e => by cases e), ⟨rfl, fun j e x h1 h2 => ?_⟩, fun j u hj => ⟨b, 0, rfl, hb, ?_⟩⟩
 · cases j with
   | zero => cases h1; cases h2; exact ⟨rfl, hs⟩
   | succ j => simp at h1
 · rw [Nat.zero_add]
   exact cell_of ho (by simpa [ecells] using hj)
theorem cells6 {w : World} {b : Nat} {a0 a1 a2 a3 a4 a5 : Value} {t : TypeId} {f : Nat × Nat} (h : w.heap[b]? = some (.cells #[a0, a1, a2, a3, a4, a5] t f)) : w.cell? ⟨b, 0, none⟩ = some a0 ∧ w.cell? ⟨b, 1, none⟩ = some a1 ∧ w.cell? ⟨b, 2, none⟩ = some a2 ∧ w.cell? ⟨b, 3, none⟩ = some a3 ∧ w.cell? ⟨b, 4, none⟩ = some a4 ∧ w.cell? ⟨b, 5, none⟩ = some a5 :=
 ⟨cell_of (o := 0) h rfl, cell_of (o := 1) h rfl, cell_of (o := 2) h rfl, cell_of (o := 3) h rfl, cell_of (o := 4) h rfl, cell_of (o := 5) h rfl⟩
theorem runArgs_up {w W : World} {ra : Option Addr} {R : List BRul} {rc : Nat} {v : Value} {P : List (BCert × Value)} (h : RunArgs w ra R rc v P (· < w.heap.size)) (k : Chg (fun _ => False) w W) : RunArgs W ra R rc v P (· < W.heap.size) :=
 ⟨(h.rules.chg k (fun _ _ e => e)).imp (fun _ hj => Nat.lt_of_lt_of_le hj k.size), h.nil, h.many, h.size, (h.certs.chg k (fun _ _ e => e)).up (fun _ hj => Nat.lt_of_lt_of_le hj k.size), h.few, fun _ hj => hj⟩
theorem word_l1 (w : World) (a : ByteArray) (hs : a.size ≤ 100) : WordsAt (w.alloc (.cells #[.string a] 57)) (.slice (some ⟨w.heap.size, 0, none⟩) 1 1) (· < (w.alloc (.cells #[.string a] 57)).heap.size) [a] :=
 (setAt_l1 w a hs).at_.up (fun k hk => by rw [hk, World.size_alloc]; omega)
theorem ask_set {w : World} {ba : Nat} {a0 a1 a2 a3 a4 a5 : Value} {x : ByteArray} (ho : w.heap[ba]? = some (.cells #[a0, a1, a2, a3, a4, a5] 28 (0, 0))) (hx : x.size ≤ 100) (W : World) (hW : W = (w.alloc (.cells #[.string x] 57)).setCell ⟨ba, 4, none⟩ (.slice (some ⟨w.heap.size, 0, none⟩) 1 1)) :
  W.heap[ba]? = some (.cells #[a0, a1, a2, a3, .slice (some ⟨w.heap.size, 0, none⟩) 1 1, a5] 28 (0, 0)) ∧ Chg (fun j => j = ba) w W ∧ WordsAt W (.slice (some ⟨w.heap.size, 0, none⟩) 1 1) (· < W.heap.size) [x] := by
 subst hW
 have ka := chg_alloc (fun _ => False) w (.cells #[.string x] 57)
 have hl := lt_of_obj ho
 have kc := chg_cell (w.alloc (.cells #[.string x] 57)) ba 4 (.slice (some ⟨w.heap.size, 0, none⟩) 1 1)
 refine ⟨obj_setCell (o := 4) (ka.obj (fun e => e) ho) _, (ka.mono (fun _ _ e => e.elim)).trans kc, ?_⟩
 refine ((setAt_l1 w x hx).at_.chg kc (fun k hk e => by omega)).up (fun k hk => ?_)
 have := kc.size
 rw [World.size_alloc] at this
 omega
set_option maxHeartbeats 8000000 in
set_option maxRecDepth 100000 in
theorem awake17_any (w : World) : Calls Tryz.prog 9 #[] w fun e w' => e = .returned (.bool true) ∧ Chg (fun _ => False) w w' := by
 obtain ⟨y, hy⟩ : ∃ y, y = n17 := ⟨_, rfl⟩
 obtain ⟨x1, hx1⟩ : ∃ y, y = k17 1 := ⟨_, rfl⟩
 obtain ⟨x2, hx2⟩ : ∃ y, y = k17 2 := ⟨_, rfl⟩
 obtain ⟨x3, hx3⟩ : ∃ y, y = k17 3 := ⟨_, rfl⟩
 obtain ⟨zy, z1, z2, z3⟩ : y.size ≤ 100 ∧ x1.size ≤ 100 ∧ x2.size ≤ 100 ∧ x3.size ≤ 100 := by subst hy hx1 hx2 hx3; decide +kernel
 obtain ⟨CC, hCC⟩ : ∃ CC : List BCert, CC = [⟨6, 8193, x2, [y], 0, 0, 0⟩] := ⟨_, rfl⟩
 have EE := Lib.hid (show explE [(y, x1)] CC [(0, [y])] 0 [x2] 9 = (1, ⟨0, [0], [aw17P]⟩, 0) by subst hCC hy hx1 hx2; exact aw17_e)
 have EZ := Lib.hid (show explE [(y, x1)] CC [(0, [y])] 0 [y] 1 = (1, ⟨0, [0], [⟨[], []⟩]⟩, 0) by subst hCC hy hx1 hx2; exact aw17_z)
 have D1 := Lib.hid (show decE [(y, x1)] CC [(0, [y])] 0 [x2] 9 = (0, ⟨1, 0, false, aw17S.rules⟩) by subst hCC hy hx1 hx2; exact aw17_d)
 have D3 := Lib.hid (show decE [(y, x1)] CC [(0, [y])] 0 [x3] 9 = (0, ⟨0, -1, false, aw17S.rules⟩) by subst hCC hy hx1 hx2 hx3; exact aw17_d3)
 have DO := Lib.hid (show decE [(y, x1)] CC [(0, [y])] 0 [x3] 1 = (0, ⟨2, 0, false, []⟩) by subst hCC hy hx1 hx2 hx3; exact aw17_o)
 have C1 := Lib.hid (show chkE [(y, x1)] CC [(0, [y])] 0 [x2] aw17Y = 0 by subst hCC hy hx1 hx2; exact aw17_c)
 have C3 := Lib.hid (show chkE [(y, x1)] CC [(0, [y])] 0 [x3] aw17Y = 13 by subst hCC hy hx1 hx2 hx3; exact aw17_c3)
 have O1 := Lib.hid (of_one w 24577 24577 rfl y (by decide) (by rw [hy]; rfl))
 have KW1 := Lib.hid (fun w => kword17_any w 1 1 rfl x1 (by decide) (by rw [hx1]; rfl))
 have KW2 := Lib.hid (fun w => kword17_any w 2 2 rfl x2 (by decide) (by rw [hx2]; rfl))
 have KW3 := Lib.hid (fun w => kword17_any w 3 3 rfl x3 (by decide) (by rw [hx3]; rfl))
 clear hy hx1 hx2 hx3
 have e1 : ∀ args w, (callFunc 29 args).run Tryz.prog w = .ok (.enter 29 args) w := enters_of Tryz.func29 (by kernel_rfl) rfl
 go_enter Tryz.func9, Tryz.ntmps9
 go_wp2_with fail
 (with_reducible refine (O1.out).mono ?_)
 rintro e w1 ⟨rfl, k1⟩
 have K1 := Lib.hid k1
 clear k1 O1
 go_wp2_with fail
 (with_reducible refine (KW1.out _).mono ?_)
 rintro e w2 ⟨rfl, k2⟩
 have K2 := Lib.hid (K1.out.trans k2)
 clear k2 K1
 go_wp2_with fail
 have kr := chg_alloc (fun _ => False) w2 (.cells #[.string y, .string x1] 66)
 have OR3 := Lib.hid (show (w2.alloc (.cells #[.string y, .string x1] 66)).ownsRow w2.heap.size 66 2 (.slice (some ⟨w2.heap.size, 0, none⟩) 1 1) 1 (ruleCells [(y, x1)]) from own_lit rfl (by decide))
 have K3 := Lib.hid (K2.out.trans kr)
 clear kr K2
 generalize w2.alloc (.cells #[.string y, .string x1] 66) = w3 at *
 generalize w2.heap.size = gr at *
 (with_reducible refine (KW2.out _).mono ?_)
 rintro e w4 ⟨rfl, k4⟩
 have K4 := Lib.hid (K3.out.trans k4)
 have OR4 := Lib.hid (own_chg OR3.out k4 (fun _ _ e => e))
 clear k4 K3 OR3
 obtain ⟨w5, hw5⟩ : ∃ W, W = w4.alloc (.cells #[.string y] 57) := ⟨_, rfl⟩
 obtain ⟨w6, hw6⟩ : ∃ W, W = w5.alloc (.cells #[.int .i64 6, .int .u16 8193, .string x2, .slice (some ⟨w4.heap.size, 0, none⟩) 1 1, .int .i64 0, .int .i64 0, .int .i64 0] 64) := ⟨_, rfl⟩
 obtain ⟨w7, hw7⟩ : ∃ W, W = w6.alloc (.cells #[.string y] 57) := ⟨_, rfl⟩
 obtain ⟨w8, hw8⟩ : ∃ W, W = w7.alloc (.cells #[.int .i64 0, .slice (some ⟨w6.heap.size, 0, none⟩) 1 1] 56) := ⟨_, rfl⟩
 have s5 : w5.heap.size = w4.heap.size + 1 := by rw [hw5, World.size_alloc]
 have s6 : w6.heap.size = w4.heap.size + 1 + 1 := by rw [hw6, World.size_alloc, s5]
 have s7 : w7.heap.size = w4.heap.size + 1 + 1 + 1 := by rw [hw7, World.size_alloc, s6]
 have s8 : w8.heap.size = w4.heap.size + 1 + 1 + 1 + 1 := by rw [hw8, World.size_alloc, s7]
 have q5 : Chg (fun _ => False) w4 w5 := by rw [hw5]; exact chg_alloc _ _ _
 have q6 : Chg (fun _ => False) w5 w6 := by rw [hw6]; exact chg_alloc _ _ _
 have q7 : Chg (fun _ => False) w6 w7 := by rw [hw7]; exact chg_alloc _ _ _
 have q8 : Chg (fun _ => False) w7 w8 := by rw [hw8]; exact chg_alloc _ _ _
 obtain ⟨PP, hPP⟩ : ∃ PP : List (BCert × Value), PP = [(⟨6, 8193, x2, [y], 0, 0, 0⟩, .slice (some ⟨w4.heap.size, 0, none⟩) 1 1)] := ⟨_, rfl⟩
 have HCP : certsOf PP = CC := by subst hPP hCC; rfl
 have HPL : PP.length = 1 := by subst hPP; rfl
 have SA : SetAt w8 (.slice (some ⟨w4.heap.size, 0, none⟩) 1 1) (· < w8.heap.size) [y] := by
  have := setAt_l1 w4 y zy
  rw [← hw5] at this
  exact (this.chg (q6.trans (q7.trans q8)) (fun _ _ e => e)).up (fun k hk => by rw [hk]; omega)
 have SB : SetAt w8 (.slice (some ⟨w6.heap.size, 0, none⟩) 1 1) (· < w8.heap.size) [y] := by
  have := setAt_l1 w6 y zy
  rw [← hw7] at this
  exact (this.chg q8 (fun _ _ e => e)).up (fun k hk => by rw [hk]; omega)
 have CA : CertsAt w8 (.slice (some ⟨w5.heap.size, 0, none⟩) 1 1) (· < w8.heap.size) PP := by
  have ow : w6.ownsRow w5.heap.size 64 7 (.slice (some ⟨w5.heap.size, 0, none⟩) 1 1) PP.length (pcellsL PP) := by rw [hw6]; subst hPP; exact own_lit rfl (by decide)
  have ow8 := own_chg ow (q7.trans q8) (fun _ _ e => e)
  have st : Sets7 w8 (· < w8.heap.size) PP := fun p hp => by
   rw [hPP, List.mem_singleton] at hp
   subst hp
   exact ⟨_, _, rfl, SA, by simp only; unfold maxLen; omega, by simp⟩
  exact (certsAt_own ow8 st).up (fun k hk => hk.elim id (fun e => (ow8.lt k e).2))
 have EA : EntsAt w8 (.slice (some ⟨w7.heap.size, 0, none⟩) 1 1) (· < w8.heap.size) [(0, [y])] := by
  refine ents_one ?_ SB (by omega)
  rw [hw8]; exact obj_alloc_new _ _
 have OR8 := own_chg OR4.out (q5.trans (q6.trans (q7.trans q8))) (fun _ _ e => e)
 have RA := Lib.hid (show RunArgs w8 (some ⟨gr, 0, none⟩) [(y, x1)] 1 (.slice (some ⟨w5.heap.size, 0, none⟩) 1 1) PP (· < w8.heap.size) from
  ⟨(rulesAt_blk OR8 (fun r hr => by rw [List.mem_singleton] at hr; subst hr; unfold maxLen; simp only; omega)).imp (fun k hk => (OR8.lt k hk).2), (fun e => by cases e), (by simp), (fun _ r hr => by rw [List.mem_singleton] at hr; subst hr; simp only; omega), CA, (by rw [HPL]; omega), fun k hk => hk⟩)
 have ENT := Lib.hid EA
 have K8 := Lib.hid (K4.out.trans (q5.trans (q6.trans (q7.trans q8))))
 have HCPH := Lib.hid HCP
 have HPLH := Lib.hid HPL
 rw [s5] at RA
 rw [s7] at ENT
 rw [s6, hw7, hw6, hw5] at hw8
 clear hPP hCC OR4 OR8 CA EA SA SB HCP HPL q5 q6 q7 q8 K4 s5 s6 s7 s8
 have HW8 := Lib.hid hw8
 clear hw8 hw5 hw6 hw7
 go_wp2_with fail
 rw [← HW8.out]
 clear HW8
 generalize w4.heap.size + 1 + 1 + 1 = be at *
 generalize w4.heap.size + 1 = bc at *
 have ASK := Lib.hid (fun W (k : Chg (fun _ => False) w8 W) cv c (hc : WordsAt W cv (· < W.heap.size) c) => show AskAt W (some ⟨gr, 0, none⟩) [(y, x1)] 1 (.slice (some ⟨bc, 0, none⟩) 1 1) (.slice (some ⟨be, 0, none⟩) 1 1) cv PP [(0, [y])] c (· < W.heap.size) from
  ⟨runArgs_up RA.out k, (ENT.out.chg k (fun _ _ e => e)).up (fun _ hj => Nat.lt_of_lt_of_le hj k.size), by simp, hc⟩)
 have DEC := Lib.hid (fun W (k : Chg (fun _ => False) w8 W) cv c b q (hc : WordsAt W cv (· < W.heap.size) c) (hq : decE [(y, x1)] CC [(0, [y])] 0 c b = q) => show Calls Tryz.prog 11 #[.agg #[.slice (some ⟨gr, 0, none⟩) 1 1, .slice (some ⟨bc, 0, none⟩) 1 1, .slice (some ⟨be, 0, none⟩) 1 1, .int .i64 0, cv, .int .i64 b]] W (fun e w' => e = .returned (.tuple #[.int .i64 q.2.ans, .int .i64 q.1]) ∧ Chg (fun _ => False) W w') from by
  have := adec_any W (some ⟨gr, 0, none⟩) [(y, x1)] 1 _ _ cv PP [(0, [y])] 0 c b _ (ASK.out W k cv c hc)
  rw [HCPH.out, hq] at this
  exact this)
 have EXP := Lib.hid (fun W (k : Chg (fun _ => False) w8 W) cv c b q (hc : WordsAt W cv (· < W.heap.size) c) (hq : explE [(y, x1)] CC [(0, [y])] 0 c b = q) => show Calls Tryz.prog 13 #[.agg #[.slice (some ⟨gr, 0, none⟩) 1 1, .slice (some ⟨bc, 0, none⟩) 1 1, .slice (some ⟨be, 0, none⟩) 1 1, .int .i64 0, cv, .int .i64 b]] W (ExpRes W q) from by
  have := aexp_any W (some ⟨gr, 0, none⟩) [(y, x1)] 1 _ _ cv PP [(0, [y])] 0 c b _ (ASK.out W k cv c hc)
  rw [HCPH.out, hq] at this
  exact this)
 have CHK := Lib.hid (fun W (k : Chg (fun _ => False) w8 W) cv c q tv pv (hc : WordsAt W cv (· < W.heap.size) c) (hw : WhyAt W tv pv (· < W.heap.size) aw17Y) (hq : chkE [(y, x1)] CC [(0, [y])] 0 c aw17Y = q) => show Calls Tryz.prog 18 #[.slice (some ⟨gr, 0, none⟩) 1 1, .slice (some ⟨bc, 0, none⟩) 1 1, .slice (some ⟨be, 0, none⟩) 1 1, .int .i64 0, cv, .agg #[.int .i64 0, tv, pv]] W (fun e w' => e = .returned (.int .i64 q) ∧ Chg (fun _ => False) W w') from by
  have R := runArgs_up RA.out k
  have := vcheck_any W (some ⟨gr, 0, none⟩) [(y, x1)] 1 _ _ cv tv pv PP [(0, [y])] 0 c aw17Y _ _ ⟨R.rules, R.nil, by simp, R.certs, R.few⟩ (ASK.out W k cv c hc).ents (by simp) hc hw ⟨fun p hp => by
   have e : p = aw17P := by simpa [aw17Y] using hp
   rw [e]; decide⟩
  rw [HCPH.out, hq] at this
  exact this)
 clear RA ENT HCPH HPLH ASK
 (with_reducible refine (KW2.out _).mono ?_)
 rintro e w9 ⟨rfl, k9⟩
 have SC := word_l1 w9 x2 z2
 have ka := chg_alloc (fun _ => False) w9 (.cells #[.string x2] 57)
 have SCH := Lib.hid SC
 have KA := Lib.hid (k9.trans ka)
 have hg : w9.heap.size < (w9.alloc (.cells #[.string x2] 57)).heap.size := by rw [World.size_alloc]; omega
 have eg : (w9.alloc (.cells #[.string x2] 57)).heap.size = w9.heap.size + 1 := World.size_alloc _ _
 have kb := chg_alloc (fun _ => False) (w9.alloc (.cells #[.string x2] 57)) (.cells #[.slice (some ⟨gr, 0, none⟩) 1 1, .slice (some ⟨bc, 0, none⟩) 1 1, .slice (some ⟨be, 0, none⟩) 1 1, .int .i64 0, .slice (some ⟨w9.heap.size, 0, none⟩) 1 1, .int .i64 9] 28)
 have oa := obj_alloc_new (w9.alloc (.cells #[.string x2] 57)) (.cells #[.slice (some ⟨gr, 0, none⟩) 1 1, .slice (some ⟨bc, 0, none⟩) 1 1, .slice (some ⟨be, 0, none⟩) 1 1, .int .i64 0, .slice (some ⟨w9.heap.size, 0, none⟩) 1 1, .int .i64 9] 28)
 rw [eg] at oa
 have OA := Lib.hid oa
 have SC11 := Lib.hid ((SC.chg kb (fun _ _ e => e)).up (fun j hj => Nat.lt_of_lt_of_le hj kb.size))
 have K11 := Lib.hid (KA.out.trans kb)
 have A8 := Lib.hid (show w8.heap.size ≤ w9.heap.size + 1 from by have := k9.size; omega)
 clear KW2 SC ka SCH KA kb oa eg k9 hg
 go_wp2_with fail
 generalize (w9.alloc (.cells #[.string x2] 57)).alloc (.cells #[.slice (some ⟨gr, 0, none⟩) 1 1, .slice (some ⟨bc, 0, none⟩) 1 1, .slice (some ⟨be, 0, none⟩) 1 1, .int .i64 0, .slice (some ⟨w9.heap.size, 0, none⟩) 1 1, .int .i64 9] 28) = w11 at *
 generalize w9.heap.size + 1 = ba at *
 generalize w9.heap.size = g9 at *
 have X := Lib.hid (EXP.out w11 K11.out _ [x2] 9 _ SC11.out EE.out)
 (with_reducible refine (X.out).mono ?_)
 rintro e w12 ⟨k12, tv, pv, rfl, hy⟩
 clear X EE
 have HY := Lib.hid hy
 obtain ⟨ta, tc, e1', _, _⟩ := hy.ways
 have e1' : tv = .slice ta 1 tc := e1'
 subst e1'
 obtain ⟨qa, qc, e2, _, hps⟩ := hy.proofs
 have e2 : pv = .slice qa 1 qc := e2
 subst e2
 obtain ⟨lb, lo, iv, sv, rfl, hlb, _, p1, hpp⟩ := hps 0 aw17P rfl
 obtain ⟨s1, s3, e3⟩ := hpp.steps.shape
 have e3 : sv = .slice s1 1 s3 := e3
 subst e3
 have hba : ba < w11.heap.size := lt_of_obj OA.out
 have kb := chg_alloc (fun _ => False) w12 (.cells #[.int .i64 0, .slice ta 1 tc, .slice (some ⟨lb, lo, none⟩) 1 qc] 39)
 have ob := obj_alloc_new w12 (.cells #[.int .i64 0, .slice ta 1 tc, .slice (some ⟨lb, lo, none⟩) 1 qc] 39)
 have OA13 := Lib.hid ((k12.trans kb).obj (fun e => e) OA.out)
 have SC13 := Lib.hid ((SC11.out.chg (k12.trans kb) (fun _ _ e => e)).up (fun j hj => Nat.lt_of_lt_of_le hj (k12.trans kb).size))
 have K13 := Lib.hid (K11.out.trans (k12.trans kb))
 have HY13 := Lib.hid ((HY.out.chg kb (fun _ _ e => e)).up (fun j hj => Nat.lt_of_lt_of_le hj.2 kb.size))
 have hb5 : ba < w12.heap.size := Nat.lt_of_lt_of_le hba k12.size
 have hlb5 : ba < lb := Nat.lt_of_lt_of_le hba hlb.1
 have FY := Lib.hid (fun (W : World) (k : Chg (fun j => j = ba) (w12.alloc (.cells #[.int .i64 0, .slice ta 1 tc, .slice (some ⟨lb, lo, none⟩) 1 qc] 39)) W) =>
  And.intro (show W.heap[w12.heap.size]? = some (.cells #[.int .i64 0, .slice ta 1 tc, .slice (some ⟨lb, lo, none⟩) 1 qc] 39 (0, 0)) from k.obj (fun e => by omega) ob)
   (And.intro (show W.cell? ⟨lb, lo + 1, none⟩ = some (.slice s1 1 s3) from cell_chg k (fun e => by omega) (cell_chg kb (fun e => e) (by simpa using p1)))
    (show WhyAt W (.slice ta 1 tc) (.slice (some ⟨lb, lo, none⟩) 1 qc) (· < W.heap.size) aw17Y from ((HY.out.chg kb (fun _ _ e => e)).chg k (fun j hj e => by have := hj.1; omega)).up (fun j hj => Nat.lt_of_lt_of_le hj.2 (Nat.le_trans kb.size k.size)))))
 have AW := Lib.hid (show ba < (w12.alloc (.cells #[.int .i64 0, .slice ta 1 tc, .slice (some ⟨lb, lo, none⟩) 1 qc] 39)).heap.size from by have := kb.size; omega)
 obtain ⟨c0, c1, c2, c3, c4, c5⟩ := cells6 OA13.out
 clear hy hps hpp p1 kb ob k12 OA SC11 K11 HY HY13 hba hb5 hlb5 hlb
 go_wp2_with fail
 generalize w12.alloc (.cells #[.int .i64 0, .slice ta 1 tc, .slice (some ⟨lb, lo, none⟩) 1 qc] 39) = w13 at *
 generalize w12.heap.size = b5 at *
 have X := Lib.hid (DEC.out w13 K13.out _ [x2] 9 _ SC13.out D1.out)
 (with_reducible refine (X.out).mono ?_)
 rintro e w14 ⟨rfl, k14⟩
 have OA14 := Lib.hid (k14.obj (fun e => e) OA13.out)
 have SC14 := Lib.hid ((SC13.out.chg k14 (fun _ _ e => e)).up (fun j hj => Nat.lt_of_lt_of_le hj k14.size))
 have K14 := Lib.hid (K13.out.trans k14)
 have B14 := Lib.hid (show Chg (fun j => j = ba) w13 w14 from k14.mono (fun _ _ e => e.elim))
 clear X D1 k14 c0 c1 c2 c3 c4 c5 OA13 SC13 K13
 obtain ⟨c0, c1, c2, c3, c4, c5⟩ := cells6 OA14.out
 obtain ⟨fy, fs, fw⟩ := FY.out w14 B14.out
 have y0 := cell_of (o := 0) fy rfl
 have y1 := cell_of (o := 1) fy rfl
 have y2 := cell_of (o := 2) fy rfl
 have X := Lib.hid (CHK.out w14 K14.out _ [x2] _ _ _ SC14.out fw C1.out)
 clear fy fs fw C1
 go_wp2_with fail
 (with_reducible refine (X.out).mono ?_)
 rintro e w15 ⟨rfl, k15⟩
 have OA15 := Lib.hid (k15.obj (fun e => e) OA14.out)
 have K15 := Lib.hid (K14.out.trans k15)
 have B15 := Lib.hid (show Chg (fun j => j = ba) w13 w15 from B14.out.trans (k15.mono (fun _ _ e => e.elim)))
 clear X k15 c0 c1 c2 c3 c4 c5 y0 y1 y2 OA14 SC14 K14 B14
 go_wp2_with fail
 (with_reducible refine (KW3.out _).mono ?_)
 rintro e w16 ⟨rfl, k16⟩
 have O16 := Lib.hid (k16.obj (fun e => e) OA15.out)
 have K16 := Lib.hid (K15.out.trans k16)
 have B16 := Lib.hid (show Chg (fun j => j = ba) w13 w16 from B15.out.trans (k16.mono (fun _ _ e => e.elim)))
 clear k16 OA15 K15 B15
 have ka := chg_alloc (fun _ => False) w16 (.cells #[.string x3] 57)
 have oa := ka.obj (fun e => e) O16.out
 obtain ⟨c0, c1, c2, c3, c4, c5⟩ := cells6 oa
 have f4 := frozen_of (o := 4) oa
 go_wp2_with fail
 obtain ⟨W, hW⟩ : ∃ W, W = (w16.alloc (.cells #[.string x3] 57)).setCell ⟨ba, 4, none⟩ (.slice (some ⟨w16.heap.size, 0, none⟩) 1 1) := ⟨_, rfl⟩
 obtain ⟨o', k', s'⟩ := ask_set O16.out z3 W hW
 rw [← hW]
 have O18 := Lib.hid o'
 have S18 := Lib.hid s'
 have K18 := Lib.hid (K16.out.next k' (fun k hk e => by have := A8.out; omega))
 have B18 := Lib.hid (B16.out.trans k')
 clear hW o' k' s' O16 K16 B16 ka oa c0 c1 c2 c3 c4 c5 f4
 generalize w16.heap.size = g18 at *
 generalize W = w18 at *
 have X := Lib.hid (DEC.out w18 K18.out _ [x3] 9 _ S18.out D3.out)
 (with_reducible refine (X.out).mono ?_)
 rintro e w19 ⟨rfl, k19⟩
 have O19 := Lib.hid (k19.obj (fun e => e) O18.out)
 have S19 := Lib.hid ((S18.out.chg k19 (fun _ _ e => e)).up (fun j hj => Nat.lt_of_lt_of_le hj k19.size))
 have K19 := Lib.hid (K18.out.trans k19)
 have B19 := Lib.hid (B18.out.trans (k19.mono (T := fun j => j = ba) (fun _ _ e => e.elim)))
 clear X D3 k19 O18 S18 K18 B18
 obtain ⟨c0, c1, c2, c3, c4, c5⟩ := cells6 O19.out
 obtain ⟨fy, fs, fw⟩ := FY.out w19 B19.out
 have y0 := cell_of (o := 0) fy rfl
 have y1 := cell_of (o := 1) fy rfl
 have y2 := cell_of (o := 2) fy rfl
 have X := Lib.hid (CHK.out w19 K19.out _ [x3] _ _ _ S19.out fw C3.out)
 clear fy fs fw C3
 go_wp2_with fail
 (with_reducible refine (X.out).mono ?_)
 rintro e w20 ⟨rfl, k20⟩
 have O20 := Lib.hid (k20.obj (fun e => e) O19.out)
 have K20 := Lib.hid (K19.out.trans k20)
 have B20 := Lib.hid (B19.out.trans (k20.mono (T := fun j => j = ba) (fun _ _ e => e.elim)))
 clear X k20 c0 c1 c2 c3 c4 c5 y0 y1 y2 O19 S19 K19 B19
 have ka := chg_alloc (fun _ => False) w20 (.cells #[.string y] 57)
 have oa := ka.obj (fun e => e) O20.out
 obtain ⟨c0, c1, c2, c3, c4, c5⟩ := cells6 oa
 have f4 := frozen_of (o := 4) oa
 have f5 := frozen_of (o := 5) oa
 go_wp2_with fail
 obtain ⟨W, hW⟩ : ∃ W, W = (w20.alloc (.cells #[.string y] 57)).setCell ⟨ba, 4, none⟩ (.slice (some ⟨w20.heap.size, 0, none⟩) 1 1) := ⟨_, rfl⟩
 obtain ⟨o', k', s'⟩ := ask_set O20.out zy W hW
 rw [← hW]
 have kc := chg_cell W ba 5 (.int .i64 1)
 have O23 := Lib.hid (obj_setCell (o := 5) o' (.int .i64 1))
 have S23 := Lib.hid (show WordsAt (W.setCell ⟨ba, 5, none⟩ (.int .i64 1)) (.slice (some ⟨w20.heap.size, 0, none⟩) 1 1) (· < (W.setCell ⟨ba, 5, none⟩ (.int .i64 1)).heap.size) [y] from by
  subst hW
  have kk := chg_cell (w20.alloc (.cells #[.string y] 57)) ba 4 (.slice (some ⟨w20.heap.size, 0, none⟩) 1 1)
  have hl := lt_of_obj O20.out
  refine (((setAt_l1 w20 y zy).at_.chg kk (fun k hk e => by omega)).chg kc (fun k hk e => by omega)).up (fun k hk => ?_)
  have h1 := kk.size
  have h2 := kc.size
  rw [World.size_alloc] at h1
  omega)
 have K23 := Lib.hid ((K20.out.next k' (fun k hk e => by have := A8.out; omega)).next kc (fun k hk e => by have := A8.out; omega))
 have B23 := Lib.hid ((B20.out.trans k').trans kc)
 clear hW o' k' s' kc O20 K20 B20 ka oa c0 c1 c2 c3 c4 c5 f4 f5
 generalize w20.heap.size = g20 at *
 generalize W.setCell ⟨ba, 5, none⟩ (.int .i64 1) = w23 at *
 have X := Lib.hid (EXP.out w23 K23.out _ [y] 1 _ S23.out EZ.out)
 (with_reducible refine (X.out).mono ?_)
 rintro e w24 ⟨k24, tv2, pv2, rfl, hy⟩
 have HY := Lib.hid hy
 obtain ⟨ta2, tc2, e1', _, _⟩ := hy.ways
 have e1' : tv2 = .slice ta2 1 tc2 := e1'
 subst e1'
 obtain ⟨qa2, qc2, e2, _, hps⟩ := hy.proofs
 have e2 : pv2 = .slice qa2 1 qc2 := e2
 subst e2
 obtain ⟨lb2, lo2, iv2, sv2, rfl, hlb, _, p1, hpp⟩ := hps 0 ⟨[], []⟩ rfl
 obtain ⟨s4, s6, e3⟩ := hpp.steps.shape
 have e3 : sv2 = .slice s4 0 s6 := e3
 subst e3
 have hba : ba < w23.heap.size := lt_of_obj O23.out
 have kb := chg_alloc (fun _ => False) w24 (.cells #[.int .i64 0, .slice ta2 1 tc2, .slice (some ⟨lb2, lo2, none⟩) 1 qc2] 39)
 have ob := obj_alloc_new w24 (.cells #[.int .i64 0, .slice ta2 1 tc2, .slice (some ⟨lb2, lo2, none⟩) 1 qc2] 39)
 have O25 := Lib.hid ((k24.trans kb).obj (fun e => e) O23.out)
 have K25 := Lib.hid (K23.out.trans (k24.trans kb))
 have B25 := Lib.hid (B23.out.trans ((k24.trans kb).mono (T := fun j => j = ba) (fun _ _ e => e.elim)))
 have hb5 : ba < w24.heap.size := Nat.lt_of_lt_of_le hba k24.size
 have hlb5 : ba < lb2 := Nat.lt_of_lt_of_le hba hlb.1
 have FZ := Lib.hid (fun (W : World) (k : Chg (fun j => j = ba) (w24.alloc (.cells #[.int .i64 0, .slice ta2 1 tc2, .slice (some ⟨lb2, lo2, none⟩) 1 qc2] 39)) W) =>
  And.intro (show W.heap[w24.heap.size]? = some (.cells #[.int .i64 0, .slice ta2 1 tc2, .slice (some ⟨lb2, lo2, none⟩) 1 qc2] 39 (0, 0)) from k.obj (fun e => by omega) ob)
   (show W.cell? ⟨lb2, lo2 + 1, none⟩ = some (.slice s4 0 s6) from cell_chg k (fun e => by omega) (cell_chg kb (fun e => e) (by simpa using p1))))
 obtain ⟨c0, c1, c2, c3, c4, c5⟩ := cells6 O25.out
 clear X EZ hy hps hpp p1 kb ob k24 O23 S23 K23 B23 HY hba hb5 hlb5 hlb
 go_wp2_with fail
 clear c0 c1 c2 c3 c4 c5
 generalize w24.alloc (.cells #[.int .i64 0, .slice ta2 1 tc2, .slice (some ⟨lb2, lo2, none⟩) 1 qc2] 39) = w25 at *
 generalize w24.heap.size = b14 at *
 (with_reducible refine (KW3.out _).mono ?_)
 rintro e w26 ⟨rfl, k26⟩
 have O26 := Lib.hid (k26.obj (fun e => e) O25.out)
 have K26 := Lib.hid (K25.out.trans k26)
 have B26 := Lib.hid (B25.out.trans (k26.mono (T := fun j => j = ba) (fun _ _ e => e.elim)))
 have Z26 := Lib.hid (show Chg (fun j => j = ba) w25 w26 from k26.mono (fun _ _ e => e.elim))
 clear k26 O25 K25 B25
 have ka := chg_alloc (fun _ => False) w26 (.cells #[.string x3] 57)
 have oa := ka.obj (fun e => e) O26.out
 obtain ⟨c0, c1, c2, c3, c4, c5⟩ := cells6 oa
 have f4 := frozen_of (o := 4) oa
 go_wp2_with fail
 obtain ⟨W, hW⟩ : ∃ W, W = (w26.alloc (.cells #[.string x3] 57)).setCell ⟨ba, 4, none⟩ (.slice (some ⟨w26.heap.size, 0, none⟩) 1 1) := ⟨_, rfl⟩
 obtain ⟨o', k', s'⟩ := ask_set O26.out z3 W hW
 rw [← hW]
 have S28 := Lib.hid s'
 have K28 := Lib.hid (K26.out.next k' (fun k hk e => by have := A8.out; omega))
 have B28 := Lib.hid (B26.out.trans k')
 have Z28 := Lib.hid (Z26.out.trans k')
 clear hW o' k' s' O26 K26 B26 Z26 ka oa c0 c1 c2 c3 c4 c5 f4
 generalize w26.heap.size = g28 at *
 generalize W = w28 at *
 have X := Lib.hid (DEC.out w28 K28.out _ [x3] 1 _ S28.out DO.out)
 (with_reducible refine (X.out).mono ?_)
 rintro e w29 ⟨rfl, k29⟩
 have K29 := Lib.hid (K28.out.trans k29)
 obtain ⟨fy, fs, _⟩ := FY.out w29 (B28.out.trans (k29.mono (T := fun j => j = ba) (fun _ _ e => e.elim)))
 obtain ⟨fz, fs2⟩ := FZ.out w29 (Z28.out.trans (k29.mono (T := fun j => j = ba) (fun _ _ e => e.elim)))
 have y1 := cell_of (o := 1) fy rfl
 have y2 := cell_of (o := 2) fy rfl
 have w2 := cell_of (o := 2) fz rfl
 clear X DO k29 S28 K28 B28 Z28 fy fz FY FZ DEC EXP CHK
 go_wp2
 go_ret
 exact ⟨rfl, K8.out.trans K29.out⟩
end Go.Proofs.YthdfplafihmejaaGreat
