/-
  Models, in plain Lean: what is reached stands for more.
  Models, in plain Lean: what is accepted of honest certificates holds.
  Package model: Holds, Honest, Speaks.
  Package model: Honest.
  DecideModels: what the arguments' readings say: a model; the law, walked.
-/
import Derived.Test.YthdfplafihmejaaGreatVModW
import Derived.Test.YthdfplafihmejaaGreatVPlain2
import Derived.Test.YthdfplafihmejaaGreatCCheck
import Derived.Test.YthdfplafihmejaaGreatURun
import Derived.Test.YthdfplafihmejaaGreatVWhyProof
import Derived.Test.YthdfplafihmejaaGreatRRefAZ
import Derived.Deep.SlicePairs
namespace Go.Proofs.YthdfplafihmejaaGreat

theorem atoms_app14 {x y : Wd} (h : x.length % 2 = 0) : atoms (x ++ y) = atoms x ++ atoms y := by
 apply List.ext_getElem?
 intro i
 have hl : alen (x ++ y) = alen x + alen y := by unfold alen; rw [List.length_append]; omega
 by_cases h1 : i < alen x
 · rw [atoms_get _ (by omega), List.getElem?_append_left (by rw [atoms_length]; exact h1), atoms_get _ h1, atomAt_append_left _ _ (by unfold alen at h1; omega)]
 · by_cases h2 : i < alen x + alen y
   · rw [atoms_get _ (by omega), List.getElem?_append_right (by rw [atoms_length]; omega), atoms_length, atoms_get _ (by omega), atomAt_append_right _ _ h (by omega)]
   · rw [List.getElem?_eq_none (by rw [atoms_length]; omega), List.getElem?_eq_none (by rw [List.length_append, atoms_length, atoms_length]; omega)]
/-- A rule that holds in a model. -/
def HoldsR (f : Nat → List Nat) (r : Rul) : Prop := SubR (relW f r.1) (relW f r.2)
theorem step_rel {f : Nat → List Nat} {R : List Rul} {u v : Wd} (hu : mayB u = true) (hR : ∀ r ∈ R, countsB r = true → HoldsR f r) (h : StepTo R u v) : SubR (relW f u) (relW f v) := by
 obtain ⟨r, h1, h2, a, _, h4, rfl⟩ := stepTo_iff.1 h
 obtain ⟨_, g2, g3⟩ := (stands_iff _ _ _).1 h4
 obtain ⟨k1, k2, _⟩ := (counts_iff _).1 h2
 have e1 := (may_pos k1).2
 have e2 := (may_pos k2).2
 have eu := (may_pos hu).2
 have hle : 2 * a + r.1.length ≤ u.length := by unfold alen at g2; omega
 have et : (u.take (2 * a)).length % 2 = 0 := by rw [List.length_take]; omega
 have hd : 2 * (a + alen r.1) = 2 * a + r.1.length := by unfold alen; omega
 have hs : u = u.take (2 * a) ++ r.1 ++ u.drop (2 * (a + alen r.1)) := by
  rw [hd, ← List.drop_drop, List.append_assoc]
  conv => rhs; rw [← g3]
  rw [List.length_take, List.length_drop, Nat.min_eq_left (by omega), List.take_append_drop, List.take_append_drop]
 have key : ∀ m : Wd, m.length % 2 = 0 → atoms (u.take (2 * a) ++ m ++ u.drop (2 * (a + alen r.1))) = atoms (u.take (2 * a)) ++ atoms m ++ atoms (u.drop (2 * (a + alen r.1))) := fun m hm => by
  rw [atoms_app14 (by rw [List.length_append]; omega), atoms_app14 et]
 unfold relW swapAt
 rw [key r.2 e2]
 conv => arg 1; rw [hs, key r.1 e1]
 exact relA_mid f (atoms_ne k1) (atoms_ne k2) (hR r h1 h2)
theorem reach_rel {f : Nat → List Nat} {R : List Rul} {u v : Wd} (hu : mayB u = true) (hR : ∀ r ∈ R, countsB r = true → HoldsR f r) (h : Reach R u v) : SubR (relW f u) (relW f v) := by
 induction h with
 | refl => exact SubR.refl _
 | tail g s ih => exact ih.trans (step_rel (reach_may hu g).1 hR s)
end Go.Proofs.YthdfplafihmejaaGreat

namespace Go.Proofs.YthdfplafihmejaaGreat

/-- An honest certificate. -/
def HonestR (f : Nat → List Nat) (c : BCert) : Prop := (∀ w ∈ c.fr, SubR (relW f w.data.toList) (relW f (atomW c.sg).data.toList)) → ∀ r ∈ crules c, HoldsR f (brul r)
theorem rowErr_may {R : List BRul} {w : ByteArray} {b : Int} (h : rowErr R w b = 0) : mayB w.data.toList = true := by
 unfold rowErr at h
 by_cases h0 : askErr (mayB w.data.toList) b R.length = 0
 · exact (askErr_zero h0).1
 · rw [if_neg h0] at h; exact absurd h h0
theorem holds_map {f : Nat → List Nat} {R : List BRul} (h : ∀ r ∈ R, countsB (brul r) = true → HoldsR f (brul r)) : ∀ r ∈ R.map brul, countsB r = true → HoldsR f r := fun r hr hc => by
 obtain ⟨x, hx, rfl⟩ := List.mem_map.1 hr
 exact h x hx hc
theorem run_holds {f : Nat → List Nat} {R : List BRul} {C : List BCert} {b : Int} {s : ASt} (h : AInv R C b s) (hR : ∀ r ∈ R, countsB (brul r) = true → HoldsR f (brul r)) (hC : ∀ c ∈ C, HonestR f c) : ∀ r ∈ s.rules, countsB (brul r) = true → HoldsR f (brul r) := by
 have key : ∀ k, k ≤ s.order.length → ∀ r ∈ R ++ rulesOf C (s.order.take k), countsB (brul r) = true → HoldsR f (brul r) := by
  intro k
  induction k with
  | zero => intro _ r hr; rw [List.take_zero] at hr; simp [rulesOf] at hr; exact hR r hr
  | succ k ih =>
   intro hk r hr hc
   have ih := ih (by omega)
   obtain ⟨i, hi⟩ : ∃ i, s.order[k]? = some i := ⟨_, List.getElem?_eq_getElem (by omega)⟩
   obtain ⟨c, hc'⟩ : ∃ c, C[i]? = some c := ⟨_, List.getElem?_eq_getElem (h.lt i (List.mem_of_getElem? hi))⟩
   rw [List.take_add_one, hi, Option.toList_some, rulesOf_snoc hc', ← List.append_assoc] at hr
   rcases List.mem_append.1 hr with q | q
   · exact ih r q hc
   · have hb := back_yes.1 (h.just k i c hi hc')
     refine hC c (List.mem_of_getElem? hc') (fun w hw => ?_) r q
     obtain ⟨h1, h2⟩ := hb w hw
     exact reach_rel (rowErr_may h1) (holds_map ih) ((tellB_iff h1).1 h2)
 intro r hr
 rw [h.rules] at hr
 exact key s.order.length (Nat.le_refl _) r (by rw [List.take_length]; exact hr)
theorem relS_bit {f : Nat → List Nat} {i k : Nat} (hi : i < 8) (l : List ByteArray) : bitR (relS f l) i k = true ↔ ∃ w ∈ l, bitR (relW f w.data.toList) i k = true := by
 have key : ∀ (l : List ByteArray) (r : List Nat), bitR (l.foldl (fun r w => orR r (relW f w.data.toList)) r) i k = true ↔ bitR r i k = true ∨ ∃ w ∈ l, bitR (relW f w.data.toList) i k = true := by
  intro l
  induction l with
  | nil => intro r; simp
  | cons w l ih => intro r; rw [List.foldl_cons, ih, or_bit hi, or_assoc]; simp
 unfold relS
 rw [key]
 have h0 : bitR (List.replicate 8 0) i k = false := by
  unfold bitR
  rw [List.getD_eq_getElem?_getD, List.getElem?_replicate, if_pos hi]; simp
 rw [h0]; simp
/-- Who is granted speaks for an entry. -/
theorem grant_speaks {f : Nat → List Nat} {R : List BRul} {C : List BCert} {L : List BEnt} {op : Int} {c : List ByteArray} {b : Int} (h0 : (decE R C L op c b).1 = 0) (h1 : (decE R C L op c b).2.ans = 1) (hR : ∀ r ∈ R, countsB (brul r) = true → HoldsR f (brul r)) (hC : ∀ c ∈ C, HonestR f c) : ∃ x ∈ L, x.1 = op ∧ SubR (relS f x.2) (relS f c) := by
 obtain ⟨i, x, G⟩ := dec_grant h0 h1
 refine ⟨x, List.mem_of_getElem? G.at_, G.op_, fun a k ha q => ?_⟩
 obtain ⟨w, hw, hb⟩ := (relS_bit ha x.2).1 q
 refine (relS_bit ha c).2 ?_
 rcases G.way with ⟨_, hs⟩ | ⟨_, s, hs, _, hf⟩
 · have := List.all_eq_true.1 hs w hw
   unfold hasB at this
   exact ⟨w, of_decide_eq_true this, hb⟩
 · obtain ⟨_, hg⟩ := fitGo_one hf
   obtain ⟨g1, g2⟩ := hg w hw
   unfold metB anyB at g2
   obtain ⟨v, hv, hc⟩ := List.any_eq_true.1 g2
   unfold hasB at hc
   have hr := (tellB_iff g1).1 ((tellL_mem g1).1 hv)
   exact ⟨v, of_decide_eq_true hc, reach_rel (rowErr_may g1) (holds_map (run_holds (accept_fin hs).1.inv hR hC)) hr a k ha hb⟩
end Go.Proofs.YthdfplafihmejaaGreat

namespace Go.Proofs.YthdfplafihmejaaGreat
open Go.RowKit Go.Maps

theorem modB_iff {N : Int} {M : List BRow} (h : modB N M = true) : ∀ x ∈ M, 1 ≤ x.2.length ∧ x.2.length ≤ 8 := fun x hx => by
 unfold modB at h
 rw [Bool.and_eq_true, decide_eq_true_iff] at h
 obtain ⟨h1, h2⟩ := h
 have := List.all_eq_true.1 h2 x hx
 unfold mrowB at this
 rw [Bool.and_eq_true, decide_eq_true_iff] at this
 omega
theorem rows_lt {w : World} {v : Value} {G : Nat → Prop} {M : List BRow} (h : MRowsAt w v G M) : RowsLt M := fun x hx y hy => by
 obtain ⟨_, _, _, _, hc⟩ := h
 obtain ⟨j, hj⟩ := List.mem_iff_getElem?.1 hx
 obtain ⟨_, _, _, _, _, _, _, _, ⟨_, _, _, _, hb⟩, _⟩ := hc j x hj
 obtain ⟨i, hi⟩ := List.mem_iff_getElem?.1 hy
 obtain ⟨_, _, _, _, _, q⟩ := hb i y hi
 exact q
theorem read_at {w : World} {N : Int} {v : Value} {G : Nat → Prop} {M : List BRow} (h : MRowsAt w v G M) (hm : modB N M = true) : ∀ W, Chg (fun _ => False) w W → Calls Tryz.prog 50 #[.agg #[.int .i64 N, v]] W fun e w' => ∃ b, e = .returned (.map (some b)) ∧ AtomsAt w' b (modF M) ∧ Chg (fun _ => False) W w' :=
 fun W k => mread W N v G M (h.chg k (fun _ _ e => e)) (modB_iff hm)
theorem pick_cells {W w : World} {b : Nat} {x y : Value} {t : TypeId} {fz : Nat × Nat} (h : w.heap[b]? = some (.cells #[x, y] t fz)) (k : Chg (fun _ => False) w W) : W.cell? ⟨b, 0, none⟩ = some x ∧ W.cell? ⟨b, 1, none⟩ = some y :=
 ⟨cell_of (k.obj (fun e => e) h) rfl, cell_of (k.obj (fun e => e) h) rfl⟩
set_option maxHeartbeats 4000000 in
set_option maxRecDepth 100000 in
theorem mholds (w : World) (N : Int) (v : Value) (G : Nat → Prop) (M : List BRow) (r : BRul) (h : MRowsAt w v G M) (h1 : r.1.size ≤ maxLen) (h2 : r.2.size ≤ maxLen) :
  Calls Tryz.prog 25 #[.agg #[.int .i64 N, v], .agg #[.string r.1, .string r.2]] w fun e w' => (∃ b k, e = .returned (.tuple #[.bool b, .int .i64 k]) ∧ (b = true → SubR (relW (modF M) r.1.data.toList) (relW (modF M) r.2.data.toList))) ∧ Chg (fun _ => False) w w' := by
 have LT := rows_lt h
 have RF := modF_rel LT
 have MM := Lib.hid (fun W (k : Chg (fun _ => False) w W) => mmay W N v G M (h.chg k (fun _ _ e => e)))
 have RD := Lib.hid (fun hm => read_at (N := N) h hm)
 obtain ⟨x, y⟩ := r
 simp only at h1 h2 ⊢
 have RU := Lib.hid (fun W b (a : AtomsAt W b (modF M)) m1 m2 => mrule W b (modF M) (x, y) a RF h1 h2 m1 m2)
 have IFF := Lib.hid (fun m1 m2 => show mholdsB (modF M) (x, y) = true ↔ _ from subR_iff (r := relW (modF M) x.data.toList) (s := relW (modF M) y.data.toList) (relA_rel RF _ (atoms_ne m1)) (relA_rel RF _ (atoms_ne m2)))
 have M1 := Lib.hid (fun W => wmay_any W x h1)
 have M2 := Lib.hid (fun W => wmay_any W y h2)
 obtain ⟨la, cap, rfl, _, _⟩ := h
 have B1 := obj_alloc_new (w.alloc (.cells #[.int .i64 N, .slice la M.length cap] 70)) (.cells #[.string x, .string y] 66)
 rw [World.size_alloc] at B1
 have OM := Lib.hid (obj_alloc (.cells #[.string x, .string y] 66) (obj_alloc_new w (.cells #[.int .i64 N, .slice la M.length cap] 70)))
 have OR := Lib.hid B1
 have KB := Lib.hid ((chg_alloc (fun _ => False) w (.cells #[.int .i64 N, .slice la M.length cap] 70)).trans (chg_alloc _ _ (.cells #[.string x, .string y] 66)))
 clear LT RF B1
 go_enter Tryz.func25, Tryz.ntmps25
 go_wp2_with fail
 generalize (w.alloc (.cells #[.int .i64 N, .slice la M.length cap] 70)).alloc (.cells #[.string x, .string y] 66) = w1 at *
 obtain ⟨b, hb⟩ : ∃ b, b = w.heap.size := ⟨_, rfl⟩
 rw [← hb] at OM OR
 rw [← hb]
 clear hb
 (with_reducible refine (MM.out w1 KB.out).mono ?_)
 rintro e w2 ⟨rfl, k2⟩
 have K2 := Lib.hid k2
 clear MM k2
 obtain ⟨r0, r1⟩ := pick_cells OR.out K2.out
 cases hm : modB N M with
 | false =>
  clear hm RD RU IFF
  go_wp2
  go_ret2
  exact ⟨⟨_, _, rfl, fun e => by cases e⟩, KB.out.trans K2.out⟩
 | true =>
 have RD := Lib.hid (RD.out hm)
 clear hm
 go_wp2_with fail
 (with_reducible refine (M1.out w2).mono ?_)
 rintro e w3 ⟨rfl, k3⟩
 have K3 := Lib.hid (K2.out.trans k3)
 clear r0 r1 k3
 obtain ⟨r0, r1⟩ := pick_cells OR.out K3.out
 cases m1 : mayB x.data.toList with
 | false =>
  clear m1 RD RU IFF
  go_wp2
  go_ret2
  exact ⟨⟨_, _, rfl, fun e => by cases e⟩, KB.out.trans K3.out⟩
 | true =>
 have F1 := Lib.hid m1
 clear m1
 go_wp2_with fail
 (with_reducible refine (M2.out w3).mono ?_)
 rintro e w4 ⟨rfl, k4⟩
 have K4 := Lib.hid (K3.out.trans k4)
 clear r0 r1 k4
 cases m2 : mayB y.data.toList with
 | false =>
  clear m2 RD RU IFF
  go_wp2
  go_ret2
  exact ⟨⟨_, _, rfl, fun e => by cases e⟩, KB.out.trans K4.out⟩
 | true =>
 have F2 := Lib.hid m2
 clear m2
 have SS := Lib.hid (fun W (k : Chg (fun _ => False) w4 W) => (⟨pick_cells OM.out (K4.out.trans k), pick_cells OR.out (K4.out.trans k)⟩ : (W.cell? ⟨b, 0, none⟩ = some (.int .i64 N) ∧ W.cell? ⟨b, 1, none⟩ = some (.slice la M.length cap)) ∧ (W.cell? ⟨b + 1, 0, none⟩ = some (.string x) ∧ W.cell? ⟨b + 1, 1, none⟩ = some (.string y))))
 go_wp2_with fail
 refine wp_region_plan (N := 25) [.rd [0, 2], .ef 1, .ef 3, .rd [4, 5]] (fun W => (W.cell? ⟨b, 0, none⟩ = some (.int .i64 N) ∧ W.cell? ⟨b, 1, none⟩ = some (.slice la M.length cap)) ∧ (W.cell? ⟨b + 1, 0, none⟩ = some (.string x) ∧ W.cell? ⟨b + 1, 1, none⟩ = some (.string y))) (by kernel_rfl) (by kernel_rfl) (by kernel_rfl) (by kernel_rfl) (Nat.le_of_ble_eq_true rfl) (SS.out w4 (Chg.refl _ _)) ?_
 refine plan_rd (A := ?A1) ?h1 ?h2
 case h1 =>
  rintro w' ⟨⟨z0, z1⟩, z2, z3⟩ K hK
  simp only [opsAt, List.filterMap_cons, List.filterMap_nil, List.getElem?_toArray, List.getElem?_cons_succ, List.getElem?_cons_zero]
  repeat still_step
  refine wpStill_nil ?_
  exact hK
 have V1 := Lib.hid (RD.out w4.drew ((KB.out.trans K4.out).drew))
 refine plan_ef rfl ?_
 go_wp2_with fail
 (with_reducible refine (V1.out).mono ?_)
 rintro e w5 ⟨bm, rfl, ha, k5⟩
 have K5 := Lib.hid ((chg_drew (fun _ => False) w4).trans k5)
 have V2 := Lib.hid (RU.out w5 bm ha F1.out F2.out)
 clear V1 k5 ha
 go_wp2_with fail
 refine ⟨SS.out w5 K5.out, ?_⟩
 refine plan_ef rfl ?_
 go_wp2_with fail
 (with_reducible refine (V2.out).mono ?_)
 rintro e w6 ⟨rfl, k6⟩
 have K6 := Lib.hid (K5.out.trans k6)
 clear V2 k6
 go_wp2_with fail
 refine ⟨SS.out w6 K6.out, ?_⟩
 refine plan_rd (A := ?A2) ?h3 ?h4
 case h3 =>
  rintro w' z0 K hK
  simp only [opsAt, List.filterMap_cons, List.filterMap_nil, List.getElem?_toArray, List.getElem?_cons_succ, List.getElem?_cons_zero]
  repeat still_step
  refine wpStill_nil ?_
  exact hK
 refine plan_nil ?_
 go_wp2
 go_ret2
 exact ⟨⟨_, _, rfl, fun e => (IFF.out F1.out F2.out).1 e⟩, KB.out.trans (K4.out.trans K6.out)⟩
set_option maxHeartbeats 4000000 in
set_option maxRecDepth 100000 in
theorem mspeaks (w : World) (N : Int) (v : Value) (G Ga Gb : Nat → Prop) (M : List BRow) (av bv : Value) (la lb : List ByteArray) (h : MRowsAt w v G M) (ha : WordsAt w av Ga la) (hb : WordsAt w bv Gb lb) :
  Calls Tryz.prog 28 #[.agg #[.int .i64 N, v], av, bv] w fun e w' => (∃ b k, e = .returned (.tuple #[.bool b, .int .i64 k]) ∧ (modB N M = true → setB la = true → setB lb = true → SubR (relS (modF M) lb) (relS (modF M) la) → b = true ∧ k = 0)) ∧ Chg (fun _ => False) w w' := by
 have LT := rows_lt h
 have RF := modF_rel LT
 have MM := Lib.hid (fun W (k : Chg (fun _ => False) w W) => mmay W N v G M (h.chg k (fun _ _ e => e)))
 have RD := Lib.hid (fun hm => read_at (N := N) h hm)
 have SA := Lib.hid (fun W b (k : Chg (fun _ => False) w W) (a : AtomsAt W b (modF M)) (m : setB la = true) => mset W b (modF M) av Ga la a RF (ha.chg k (fun _ _ e => e)) (fun _ hx => setB_mayC m hx))
 have SB := Lib.hid (fun W b (k : Chg (fun _ => False) w W) (a : AtomsAt W b (modF M)) (m : setB lb = true) => mset W b (modF M) bv Gb lb a RF (hb.chg k (fun _ _ e => e)) (fun _ hx => setB_mayC m hx))
 have WI := Lib.hid (fun W (m1 : setB la = true) (m2 : setB lb = true) => mwithin W (relS (modF M) lb) (relS (modF M) la) (relS_rel RF (fun _ hx => setB_mayC m2 hx)) (relS_rel RF (fun _ hx => setB_mayC m1 hx)))
 have IFF := Lib.hid (fun (m1 : setB la = true) (m2 : setB lb = true) => subR_iff (r := relS (modF M) lb) (s := relS (modF M) la) (relS_rel RF (fun _ hx => setB_mayC m2 hx)) (relS_rel RF (fun _ hx => setB_mayC m1 hx)))
 have M1 := Lib.hid (fun W (k : Chg (fun _ => False) w W) => setMay_any W av Ga la (ha.chg k (fun _ _ e => e)))
 have M2 := Lib.hid (fun W (k : Chg (fun _ => False) w W) => setMay_any W bv Gb lb (hb.chg k (fun _ _ e => e)))
 obtain ⟨lm, cap, rfl, _, _⟩ := h
 obtain ⟨aa, ac, rfl, _, _⟩ := ha
 obtain ⟨ba, bc, rfl, _, _⟩ := hb
 have OM := Lib.hid (obj_alloc_new w (.cells #[.int .i64 N, .slice lm M.length cap] 70))
 have KB := Lib.hid (chg_alloc (fun _ => False) w (.cells #[.int .i64 N, .slice lm M.length cap] 70))
 clear LT RF
 go_enter Tryz.func28, Tryz.ntmps28
 go_wp2_with fail
 generalize w.alloc (.cells #[.int .i64 N, .slice lm M.length cap] 70) = w1 at *
 generalize w.heap.size = b at OM ⊢
 (with_reducible refine (MM.out w1 KB.out).mono ?_)
 rintro e w2 ⟨rfl, k2⟩
 have K2 := Lib.hid (KB.out.trans k2)
 have OM2 := Lib.hid (k2.obj (fun e => e) OM.out)
 clear MM k2 OM
 cases hm : modB N M with
 | false =>
  have FM := Lib.hid hm
  clear hm RD SA SB WI IFF
  go_wp2
  go_ret2
  exact ⟨⟨_, _, rfl, fun e => by rw [FM.out] at e; cases e⟩, K2.out⟩
 | true =>
 have RD := Lib.hid (RD.out hm)
 clear hm
 go_wp2_with fail
 (with_reducible refine (M1.out w2 K2.out).mono ?_)
 rintro e w3 ⟨rfl, d3⟩
 have K3 := Lib.hid (K2.out.trans d3.chg)
 have OM3 := Lib.hid (d3.chg.obj (S := fun _ => False) (fun e => e) OM2.out)
 clear d3 OM2 M1
 cases m1 : setB la with
 | false =>
  have FM := Lib.hid m1
  clear m1 RD SA SB WI IFF
  go_wp2
  go_ret2
  exact ⟨⟨_, _, rfl, fun _ e => by rw [FM.out] at e; cases e⟩, K3.out⟩
 | true =>
 have SA := Lib.hid (fun W b k a => SA.out W b k a m1)
 have F1 := Lib.hid m1
 clear m1
 go_wp2_with fail
 (with_reducible refine (M2.out w3 K3.out).mono ?_)
 rintro e w4 ⟨rfl, d4⟩
 have K4 := Lib.hid (K3.out.trans d4.chg)
 have OM4 := Lib.hid (d4.chg.obj (S := fun _ => False) (fun e => e) OM3.out)
 clear d4 OM3 M2
 cases m2 : setB lb with
 | false =>
  have FM := Lib.hid m2
  clear m2 RD SA SB WI IFF
  go_wp2
  go_ret2
  exact ⟨⟨_, _, rfl, fun _ _ e => by rw [FM.out] at e; cases e⟩, K4.out⟩
 | true =>
 have SB := Lib.hid (fun W b k a => SB.out W b k a m2)
 have WI := Lib.hid (fun W => WI.out W F1.out m2)
 have IFF := Lib.hid (IFF.out F1.out m2)
 clear m2
 have V1 := Lib.hid (RD.out w4 K4.out)
 obtain ⟨c0, c1⟩ := pick_cells OM4.out (Chg.refl _ w4)
 go_wp2_with fail
 (with_reducible refine (V1.out).mono ?_)
 rintro e w5 ⟨bm, rfl, hat, k5⟩
 have HA := Lib.hid hat
 have K5 := Lib.hid (K4.out.trans k5)
 have V2 := Lib.hid (SB.out w5 bm K5.out hat)
 clear V1 k5 c0 c1 hat
 go_wp2_with fail
 (with_reducible refine (V2.out).mono ?_)
 rintro e w6 ⟨rfl, k6⟩
 have K6 := Lib.hid (K5.out.trans k6)
 have V3 := Lib.hid (SA.out w6 bm K6.out (HA.out.chg k6 (fun e => e)))
 clear V2 k6
 go_wp2_with fail
 (with_reducible refine (V3.out).mono ?_)
 rintro e w7 ⟨rfl, k7⟩
 have K7 := Lib.hid (K6.out.trans k7)
 have V4 := Lib.hid (WI.out w7)
 clear V3 k7
 go_wp2_with fail
 (with_reducible refine (V4.out).mono ?_)
 rintro e w8 ⟨rfl, k8⟩
 have K8 := Lib.hid (K7.out.trans k8)
 clear V4 k8
 go_wp2
 go_ret2
 exact ⟨⟨_, _, rfl, fun _ _ _ q => ⟨IFF.out.2 q, rfl⟩⟩, K8.out⟩
end Go.Proofs.YthdfplafihmejaaGreat

namespace Go.Proofs.YthdfplafihmejaaGreat
open Go.RowKit Go.Maps

theorem mcr_mem {w : World} {v : Value} {G : Nat → Prop} {c : BCert} (h : CertAt w v G c) (hm : certB c = true) : ∀ r ∈ crules c, (r.1.size ≤ maxLen ∧ r.2.size ≤ maxLen) ∧ mayB r.1.data.toList = true ∧ mayB r.2.data.toList = true := fun r hr => by
 have CM := certB_may hm
 unfold crules at hr
 obtain ⟨x, hx, rfl⟩ := List.mem_map.1 hr
 refine ⟨⟨?_, h.sp⟩, setB_mayC CM.fr hx, CM.sp⟩
 obtain ⟨_, _, _, _, hc⟩ := h.set.at_
 obtain ⟨j, hj⟩ := List.mem_iff_getElem?.1 hx
 obtain ⟨_, _, _, _, _, q⟩ := hc j x hj
 exact q
theorem atomW_len (a : Nat) : alen (atomW a).data.toList = 1 := by unfold alen atomW; simp [ofAtoms]
theorem matomW_size (a : Nat) : (atomW a).size ≤ maxLen := by
 have : (atomW a).size = 2 := by simp [atomW, ofAtoms, ByteArray.size]
 unfold maxLen; omega
theorem atoms_ne1 {v : Wd} (h : 1 ≤ alen v) : atoms v ≠ [] := fun e => by
 have h1 := atoms_length v
 rw [e] at h1
 simp at h1
 omega
/-- An honest certificate. -/
def Hon (f : Nat → List Nat) (c : BCert) : Prop := (∀ w ∈ c.fr, SubR (relW f w.data.toList) (relW f (atomW c.sg).data.toList)) → ∀ r ∈ crules c, SubR (relW f r.1.data.toList) (relW f r.2.data.toList)
set_option maxHeartbeats 8000000 in
set_option maxRecDepth 100000 in
theorem mhonest (w : World) (N : Int) (v : Value) (G Gc : Nat → Prop) (M : List BRow) (c : BCert) (sa : Option Addr) (sc : Nat) (h : MRowsAt w v G M) (hc : CertAt w (.slice sa c.fr.length sc) Gc c) :
  Calls Tryz.prog 27 #[.agg #[.int .i64 N, v], certV c (.slice sa c.fr.length sc)] w fun e w' => (∃ b k, e = .returned (.tuple #[.bool b, .int .i64 k]) ∧ (b = true → Hon (modF M) c)) ∧ Chg (fun _ => False) w w' := by
 have LT := rows_lt h
 have RF := modF_rel LT
 have MM := Lib.hid (fun W (k : Chg (fun _ => False) w W) => mmay W N v G M (h.chg k (fun _ _ e => e)))
 have RD := Lib.hid (fun hm => read_at (N := N) h hm)
 have CK := Lib.hid (fun W (k : Chg (fun _ => False) w W) => check_any W c sa sc Gc (hc.chg k (fun _ _ e => e)))
 have HC := Lib.hid hc
 have CR := Lib.hid (mcr_mem hc)
 have RFH := Lib.hid RF
 have hsg := hc.sg
 obtain ⟨la, cap, rfl, _, _⟩ := h
 have B1 := obj_alloc_new (w.alloc (.cells #[.int .i64 N, .slice la M.length cap] 70)) (.cells #[.int .i64 c.kind, .int .u16 (c.sg : Int), .string c.sp, .slice sa c.fr.length sc, .int .i64 c.f, .int .i64 c.t, .int .i64 c.n] 64)
 rw [World.size_alloc] at B1
 have OM := Lib.hid (obj_alloc (.cells #[.int .i64 c.kind, .int .u16 (c.sg : Int), .string c.sp, .slice sa c.fr.length sc, .int .i64 c.f, .int .i64 c.t, .int .i64 c.n] 64) (obj_alloc_new w (.cells #[.int .i64 N, .slice la M.length cap] 70)))
 have OC := Lib.hid B1
 have KB := Lib.hid ((chg_alloc (fun _ => False) w (.cells #[.int .i64 N, .slice la M.length cap] 70)).trans (chg_alloc _ _ (.cells #[.int .i64 c.kind, .int .u16 (c.sg : Int), .string c.sp, .slice sa c.fr.length sc, .int .i64 c.f, .int .i64 c.t, .int .i64 c.n] 64)))
 have HON := Lib.hid (show Hon (modF M) c ↔ ((∀ w ∈ c.fr, SubR (relW (modF M) w.data.toList) (relW (modF M) (atomW c.sg).data.toList)) → ∀ r ∈ crules c, SubR (relW (modF M) r.1.data.toList) (relW (modF M) r.2.data.toList)) from Iff.rfl)
 clear LT RF B1 hc
 unfold certV at CK ⊢
 go_enter Tryz.func27, Tryz.ntmps27
 go_wp2_with fail
 generalize (w.alloc (.cells #[.int .i64 N, .slice la M.length cap] 70)).alloc (.cells #[.int .i64 c.kind, .int .u16 (c.sg : Int), .string c.sp, .slice sa c.fr.length sc, .int .i64 c.f, .int .i64 c.t, .int .i64 c.n] 64) = w1 at *
 obtain ⟨b, hb⟩ : ∃ b, b = w.heap.size := ⟨_, rfl⟩
 rw [← hb] at OM OC
 rw [← hb]
 clear hb
 (with_reducible refine (MM.out w1 KB.out).mono ?_)
 rintro e w2 ⟨rfl, k2⟩
 have K2 := Lib.hid k2
 clear MM k2
 have CS := Lib.hid (fun W (k : Chg (fun _ => False) w1 W) => let q := k.obj (fun e => e) OC.out; (⟨cell_of (o := 0) q rfl, cell_of (o := 1) q rfl, cell_of (o := 2) q rfl, cell_of (o := 3) q rfl, cell_of (o := 4) q rfl, cell_of (o := 5) q rfl, cell_of (o := 6) q rfl⟩ : W.cell? ⟨b + 1, 0, none⟩ = some (.int .i64 c.kind) ∧ W.cell? ⟨b + 1, 1, none⟩ = some (.int .u16 (c.sg : Int)) ∧ W.cell? ⟨b + 1, 2, none⟩ = some (.string c.sp) ∧ W.cell? ⟨b + 1, 3, none⟩ = some (.slice sa c.fr.length sc) ∧ W.cell? ⟨b + 1, 4, none⟩ = some (.int .i64 c.f) ∧ W.cell? ⟨b + 1, 5, none⟩ = some (.int .i64 c.t) ∧ W.cell? ⟨b + 1, 6, none⟩ = some (.int .i64 c.n)))
 obtain ⟨r0, r1, r2, r3, r4, r5, r6⟩ := CS.out w2 K2.out
 cases hm : modB N M with
 | false =>
  clear hm RD HON
  go_wp2
  go_ret2
  exact ⟨⟨_, _, rfl, fun e => by cases e⟩, KB.out.trans K2.out⟩
 | true =>
 have RD := Lib.hid (RD.out hm)
 clear hm
 go_wp2_with fail
 (with_reducible refine (CK.out w2 (KB.out.trans K2.out)).mono ?_)
 rintro e w3 ⟨⟨ck, rfl, hck⟩, k3⟩
 have K3 := Lib.hid (K2.out.trans k3)
 clear r0 r1 r2 r3 r4 r5 r6 k3 CK
 by_cases h0 : ck = 0
 rotate_left
 · have g0 : (ck != 0) = true := bne_iff_ne.2 h0
   clear hck RD HON
   go_wp2
   go_ret2
   exact ⟨⟨_, _, rfl, fun e => by cases e⟩, KB.out.trans K3.out⟩
 have hcb := hck.1 h0
 subst h0
 have CR := Lib.hid (CR.out hcb)
 have CM := Lib.hid (certB_may hcb)
 clear hck hcb
 obtain ⟨z0, z1⟩ := pick_cells OM.out K3.out
 have V1 := Lib.hid (RD.out w3 (KB.out.trans K3.out))
 go_wp2_with fail
 (with_reducible refine (V1.out).mono ?_)
 rintro e w4 ⟨bm, rfl, hat, k4⟩
 have K4 := Lib.hid (K3.out.trans k4)
 have HA := Lib.hid hat
 clear V1 RD k4 hat z0 z1
 obtain ⟨r0, r1, r2, r3, r4, r5, r6⟩ := CS.out w4 K4.out
 have ka := chg_alloc (fun _ => False) w4 (.cells #[.int .u16 (c.sg : Int)] 62)
 have V2 := Lib.hid (wof1_any (w4.alloc (.cells #[.int .u16 (c.sg : Int)] 62)) w4.heap.size 0 1 c.sg hsg (cell_of (obj_alloc_new _ _) rfl))
 have K5 := Lib.hid (K4.out.trans ka)
 have HA5 := Lib.hid (HA.out.chg ka (fun e => e))
 clear ka HA
 go_wp2_with fail
 clear r0 r1 r2 r3 r4 r5 r6
 generalize w4.alloc (.cells #[.int .u16 (c.sg : Int)] 62) = w5 at *
 (with_reducible refine (V2.out).mono ?_)
 rintro e w6 ⟨rfl, k6⟩
 have K6 := Lib.hid (K5.out.trans k6)
 have HA6 := Lib.hid (HA5.out.chg k6 (fun e => e))
 clear V2 k6 HA5 K5
 have V3 := Lib.hid (mword w6 bm (modF M) (atomW c.sg) HA6.out RFH.out (matomW_size _) (by rw [atomW_len]; exact Nat.le_refl _))
 have RS := relA_rel RFH.out (atoms (atomW c.sg).data.toList) (atoms_ne1 (by rw [atomW_len]; exact Nat.le_refl _))
 change Rel8 (relW (modF M) (atomW c.sg).data.toList) at RS
 have RSH := Lib.hid RS
 obtain ⟨s0, s1, s2, s3, s4, s5, s6, s7, e8⟩ := rel8_lit RS
 have E8 := Lib.hid e8
 clear RS e8
 go_wp2_with fail
 (with_reducible refine (V3.out).mono ?_)
 rintro e w7 ⟨rfl, k7⟩
 have K7 := Lib.hid (K6.out.trans k7)
 have HA7 := Lib.hid (HA6.out.chg k7 (fun e => e))
 clear V3 k7 HA6 K6
 rw [E8.out, relV_lit]
 have B8 := Lib.hid (show relB _ w7.heap.size [s0, s1, s2, s3, s4, s5, s6, s7] from obj_alloc_new w7 (.cells #[.int .u8 (s0 : Int), .int .u8 (s1 : Int), .int .u8 (s2 : Int), .int .u8 (s3 : Int), .int .u8 (s4 : Int), .int .u8 (s5 : Int), .int .u8 (s6 : Int), .int .u8 (s7 : Int)] 120))
 have k8 := chg_alloc (fun _ => False) w7 (.cells #[.int .u8 (s0 : Int), .int .u8 (s1 : Int), .int .u8 (s2 : Int), .int .u8 (s3 : Int), .int .u8 (s4 : Int), .int .u8 (s5 : Int), .int .u8 (s6 : Int), .int .u8 (s7 : Int)] 120)
 have K8 := Lib.hid (K7.out.trans k8)
 have HA8 := Lib.hid (HA7.out.chg k8 (fun e => e))
 obtain ⟨r0, r1, r2, r3, r4, r5, r6⟩ := CS.out _ K8.out
 clear k8 K7 HA7
 go_wp2_with fail
 clear r0 r1 r2 r3 r4 r5 r6
 generalize w7.alloc (.cells #[.int .u8 (s0 : Int), .int .u8 (s1 : Int), .int .u8 (s2 : Int), .int .u8 (s3 : Int), .int .u8 (s4 : Int), .int .u8 (s5 : Int), .int .u8 (s6 : Int), .int .u8 (s7 : Int)] 120) = w8 at *
 generalize w7.heap.size = b7 at *
 have hl16 : c.fr.length ≤ 16 := by
  obtain ⟨_, q, _⟩ := of_decide_eq_true CM.out.fr
  rw [lists_len] at q; exact q
 go_loopw [31] (fun iv wr => ∃ k : Nat, k ≤ c.fr.length ∧ iv = .int .i64 k ∧ Hid ((∀ x ∈ c.fr.take k, SubR (relW (modF M) x.data.toList) (relW (modF M) (atomW c.sg).data.toList)) ∧ Chg (fun _ => False) w8 wr)) (fun iv _ => c.fr.length - (intOf iv).toNat)
 case atStart => exact ⟨0, by omega, rfl, Lib.hid ⟨fun x hx => by simp at hx, Chg.refl _ _⟩⟩
 case round =>
 obtain ⟨k, hk, rfl, HI⟩ := hrel
 have KW := Lib.hid (K8.out.trans HI.out.2)
 by_cases hlt : k < c.fr.length
 · obtain ⟨x, hx⟩ : ∃ x, c.fr[k]? = some x := ⟨_, List.getElem?_eq_getElem hlt⟩
   have XM : x ∈ c.fr := List.mem_of_getElem? hx
   obtain ⟨sa', sc', e1, _, hcl⟩ := HC.out.set.at_.chg (KB.out.trans KW.out) (fun _ _ e => e)
   cases e1
   obtain ⟨lb, lo, rfl, _, q0, hxs⟩ := hcl k x hx
   have WX := Lib.hid (fun W (k : Chg (fun _ => False) w8 W) => mword W bm (modF M) x (HA8.out.chg k (fun e => e)) RFH.out hxs (may_alen (setB_mayC CM.out.fr XM)))
   have RX := relA_rel RFH.out (atoms x.data.toList) (atoms_ne (setB_mayC CM.out.fr XM))
   change Rel8 (relW (modF M) x.data.toList) at RX
   have WI := Lib.hid (fun W => mwithin W (relW (modF M) x.data.toList) [s0, s1, s2, s3, s4, s5, s6, s7] RX (by rw [← E8.out]; exact RSH.out))
   have IFF := Lib.hid (show subR (relW (modF M) x.data.toList) [s0, s1, s2, s3, s4, s5, s6, s7] = true ↔ SubR (relW (modF M) x.data.toList) (relW (modF M) (atomW c.sg).data.toList) from by rw [← E8.out]; exact subR_iff RX RSH.out)
   have NX := Lib.hid (fun (q : SubR (relW (modF M) x.data.toList) (relW (modF M) (atomW c.sg).data.toList)) => show ∀ y ∈ c.fr.take (k + 1), SubR (relW (modF M) y.data.toList) (relW (modF M) (atomW c.sg).data.toList) from fun y hy => by
    rw [List.take_add_one, hx] at hy
    rcases List.mem_append.1 hy with z | z
    · exact HI.out.1 y z
    · simp at z; subst z; exact q)
   have SS := Lib.hid (fun W (k : Chg (fun _ => False) wr W) => rel_cells ((HI.out.2.trans k).obj (fun e => e) B8.out))
   have HW := Lib.hid HI.out.2
   have XH := Lib.hid XM
   clear HI RX hcl hx XM hxs
   go_wp2_with fail
   refine wp_region_plan (N := 54) [.rd [0, 1, 3], .ef 2, .ef 4, .rd [5]] (fun W => Cells8 W b7 s0 s1 s2 s3 s4 s5 s6 s7) (by kernel_rfl) (by kernel_rfl) (by kernel_rfl) (by kernel_rfl) (Nat.le_of_ble_eq_true rfl) (SS.out wr (Chg.refl _ _)) ?_
   refine plan_rd (A := ?A1) ?h1 ?h2
   case h1 =>
    rintro w' ⟨z0, z1, z2, z3, z4, z5, z6, z7⟩ K hK
    simp only [opsAt, List.filterMap_cons, List.filterMap_nil, List.getElem?_toArray, List.getElem?_cons_succ, List.getElem?_cons_zero]
    repeat still_step
    refine wpStill_nil ?_
    exact hK
   have V1 := Lib.hid (WX.out wr.drew HW.out.drew)
   refine plan_ef rfl ?_
   go_wp2_with fail
   (with_reducible refine (V1.out).mono ?_)
   rintro e w9 ⟨rfl, k9⟩
   have K9 := Lib.hid ((chg_drew (fun _ => False) wr).trans k9)
   have V2 := WI.out w9
   rw [relV_lit] at V2
   have V2 := Lib.hid V2
   clear V1 k9
   go_wp2_with fail
   refine ⟨SS.out w9 K9.out, ?_⟩
   refine plan_ef rfl ?_
   go_wp2_with fail
   (with_reducible refine (V2.out).mono ?_)
   rintro e w10 ⟨rfl, k10⟩
   have K10 := Lib.hid (K9.out.trans k10)
   clear V2 k10
   go_wp2_with fail
   refine ⟨SS.out w10 K10.out, ?_⟩
   refine plan_rd (A := ?A2) ?h3 ?h4
   case h3 =>
    rintro w' z0 K hK
    simp only [opsAt, List.filterMap_cons, List.filterMap_nil, List.getElem?_toArray, List.getElem?_cons_succ, List.getElem?_cons_zero]
    repeat still_step
    refine wpStill_nil ?_
    exact hK
   refine plan_nil ?_
   cases hsub : subR (relW (modF M) x.data.toList) [s0, s1, s2, s3, s4, s5, s6, s7] with
   | true =>
    have N2 := Lib.hid (NX.out (IFF.out.1 hsub))
    have K11 := Lib.hid (HW.out.trans K10.out)
    clear hsub SS WX WI IFF NX
    go_wp2
    go_roundw
    case rel => exact ⟨k + 1, by omega, by go_num, Lib.hid ⟨N2.out, K11.out⟩⟩
    case measure => simp [intOf]; omega
   | false =>
    have N2 := Lib.hid (show Hon (modF M) c from fun q => absurd (IFF.out.2 (q x XH.out)) (by rw [hsub]; decide))
    have K11 := Lib.hid ((KB.out.trans KW.out).trans K10.out)
    clear hsub SS WX WI IFF NX
    go_wp2
    go_ret2
    exact ⟨⟨_, _, rfl, fun _ => N2.out⟩, K11.out⟩
 obtain rfl : k = c.fr.length := by omega
 have ALLW := Lib.hid (show ∀ x ∈ c.fr, SubR (relW (modF M) x.data.toList) (relW (modF M) (atomW c.sg).data.toList) from fun x hx => HI.out.1 x (by rw [List.take_length]; exact hx))
 have HA9 := Lib.hid (HA8.out.chg HI.out.2 (fun e => e))
 clear HI HA8 B8
 have V1 := Lib.hid (crules_any wr c sa sc Gc (HC.out.chg (KB.out.trans KW.out) (fun _ _ e => e)) (by omega))
 unfold certV at V1
 have CL := Lib.hid (crules_length c)
 obtain ⟨r0, r1, r2, r3, r4, r5, r6⟩ := CS.out wr KW.out
 go_wp2_with fail
 (with_reducible refine (V1.out).mono ?_)
 rintro e w9 ⟨rv, rfl, own, k9⟩
 have RA := Lib.hid ((rulesAt_blk own (fun r hr => (CR.out r hr).1)))
 obtain ⟨ra, rcp, rfl⟩ := own_shape own
 have K9 := Lib.hid ((KB.out.trans KW.out).trans k9)
 have HA10 := Lib.hid (HA9.out.chg k9 (fun e => e))
 have hll : (crules c).length ≤ 16 := by rw [CL.out]; exact hl16
 clear r0 r1 r2 r3 r4 r5 r6 k9 own V1 HA9 KW
 generalize crules c = R at *
 go_wp2_with fail
 go_loopw [45] (fun iv wr => ∃ k : Nat, k ≤ R.length ∧ iv = .int .i64 k ∧ Hid ((∀ x ∈ R.take k, SubR (relW (modF M) x.1.data.toList) (relW (modF M) x.2.data.toList)) ∧ Chg (fun _ => False) w9 wr)) (fun iv _ => R.length - (intOf iv).toNat)
 case atStart => exact ⟨0, by omega, rfl, Lib.hid ⟨fun x hx => by simp at hx, Chg.refl _ _⟩⟩
 case round =>
 obtain ⟨j, hj, rfl, HJ⟩ := hrel
 by_cases hjl : j < R.length
 rotate_left
 · obtain rfl : j = R.length := by omega
   have HN := Lib.hid (show Hon (modF M) c from HON.out.2 fun _ r hr => HJ.out.1 r (by rw [List.take_length]; exact hr))
   have KF := Lib.hid (K9.out.trans HJ.out.2)
   clear HJ
   go_wp2
   go_ret2
   exact ⟨⟨_, _, rfl, fun _ => HN.out⟩, KF.out⟩
 obtain ⟨⟨x, y⟩, hx⟩ : ∃ x, R[j]? = some x := ⟨_, List.getElem?_eq_getElem hjl⟩
 obtain ⟨⟨z1, z2⟩, m1, m2⟩ := CR.out (x, y) (List.mem_of_getElem? hx)
 simp only at z1 z2 m1 m2
 obtain ⟨_, _, e1, _, hcl⟩ := RA.out.chg HJ.out.2 (fun _ _ e => e)
 cases e1
 obtain ⟨lb, lo, rfl, _, q0, q1, _, _⟩ := hcl j (x, y) hx
 simp only at q0 q1
 have kr := chg_alloc (fun _ => False) wr (.cells #[.string x, .string y] 66)
 have OR := obj_alloc_new wr (.cells #[.string x, .string y] 66)
 have KR := Lib.hid (HJ.out.2.trans kr)
 have V1 := Lib.hid (mrule (wr.alloc (.cells #[.string x, .string y] 66)) bm (modF M) (x, y) (HA10.out.chg (HJ.out.2.trans kr) (fun e => e)) RFH.out z1 z2 m1 m2)
 have IFF := Lib.hid (show mholdsB (modF M) (x, y) = true ↔ SubR (relW (modF M) x.data.toList) (relW (modF M) y.data.toList) from subR_iff (relA_rel RFH.out _ (atoms_ne m1)) (relA_rel RFH.out _ (atoms_ne m2)))
 have NX := Lib.hid (fun (q : SubR (relW (modF M) x.data.toList) (relW (modF M) y.data.toList)) => show ∀ r ∈ R.take (j + 1), SubR (relW (modF M) r.1.data.toList) (relW (modF M) r.2.data.toList) from fun r hr => by
  rw [List.take_add_one, hx] at hr
  rcases List.mem_append.1 hr with z | z
  · exact HJ.out.1 r z
  · simp at z; subst z; exact q)
 have e0 := cell_of (o := 0) OR rfl
 have e1 := cell_of (o := 1) OR rfl
 generalize mholdsB (modF M) (x, y) = hb at *
 simp only at V1
 clear HJ hcl hx z1 z2 m1 m2 kr OR
 go_wp2_with fail
 (with_reducible refine (V1.out).mono ?_)
 rintro e w11 ⟨rfl, k11⟩
 have K11 := Lib.hid (KR.out.trans k11)
 clear V1 k11 e0 e1 q0 q1
 cases hb with
 | true =>
  have N2 := Lib.hid (NX.out (IFF.out.1 rfl))
  clear NX IFF
  go_wp2
  go_roundw
  case rel => exact ⟨j + 1, by omega, by go_num, Lib.hid ⟨N2.out, K11.out⟩⟩
  case measure => simp [intOf]; omega
 | false =>
  have KF := Lib.hid (K9.out.trans K11.out)
  clear NX IFF
  go_wp2
  go_ret2
  exact ⟨⟨_, _, rfl, fun e => by cases e⟩, KF.out⟩
end Go.Proofs.YthdfplafihmejaaGreat

namespace Go.Proofs.YthdfplafihmejaaGreat
open Go.ChangeShapes Go.WideShapes Go.ChangeAt Go.RowKit Go.Maps

/-- A model that came in. -/
def ModelArg (W : World) (v : Value) (m : Int × List BRow) : Prop := ∃ rv, v = .agg #[.int .i64 m.1, rv] ∧ MRowsAt W rv (· < W.heap.size) m.2
section
variable {W : World} {H : Type} {enc : TypeId × Value → H}
theorem Tryz.cellsByte : Tryz.prog.cellsOf 5 = 1 := by kernel_rfl
theorem Tryz.cellsBytes : Tryz.prog.cellsOf 112 = 1 := by kernel_rfl
theorem Tryz.cellsAtom : Tryz.prog.cellsOf 62 = 1 := by kernel_rfl
theorem Tryz.cellsRow : Tryz.prog.cellsOf 114 = 2 := by kernel_rfl
theorem Tryz.cellsRows : Tryz.prog.cellsOf 68 = 1 := by kernel_rfl
theorem Tryz.cellsModel : Tryz.prog.cellsOf 70 = 2 := by kernel_rfl
theorem range_get {α : Type} {n j : Nat} {g : Nat → α} {y : α} (hj : ((List.range n).map g)[j]? = some y) : j < n ∧ y = g j := by
 rw [List.getElem?_map] at hj
 have hjn : j < n := by
  rcases Nat.lt_or_ge j n with h | h
  · exact h
  · rw [List.getElem?_eq_none (by simpa using h)] at hj; simp at hj
 rw [List.getElem?_range hjn] at hj
 simp at hj
 exact ⟨hjn, hj.symm⟩
theorem bytes_of {fuel : Nat} {v : Value} {x : DataW H × List MemPlace} (h : DataW.trod enc Tryz.prog W 0 (fun _ => true) true fuel 112 [v] = some x) :
  ∃ (l : List Nat) (a : Option Addr) (c : Nat), v = .slice a l.length c ∧ BytesIn W (.slice a l.length c) (· < W.heap.size) l := by
 rcases Deep.open_slice Tryz.underlying112 h with ⟨hcs, _⟩ | ⟨a, len, cap, m, k, D, Pl, hcs, _, hl, hm, hmm, hd, hel⟩
 · simp at hcs
   exact ⟨[], none, 0, hcs, ⟨none, 0, rfl, by simp, fun j x hj => by simp at hj⟩⟩
 · simp at hcs
   simp at hmm
   obtain rfl : cap = m := hmm.symm
   rw [Tryz.cellsByte] at hel
   have hv : ∀ i, i < cap → ∃ n : Nat, W.cell? (a.add i) = some (.int .u8 (n : Int)) ∧ n < 256 := by
    intro i hi
    obtain ⟨cs, h1, h2⟩ := hel i hi
    obtain ⟨n, e, _, hn⟩ := DataW.trod_int Tryz.underlying5 h2
    have hn2 : 0 ≤ n ∧ n ≤ 255 := by
     simp only [Lit.wf, Bool.and_eq_true, decide_eq_true_eq] at hn
     exact hn
    have g := (World.cells?_some h1).2.2 0 (by decide)
    rw [e] at g
    refine ⟨n.toNat, ?_, by omega⟩
    rw [show ((n.toNat : Nat) : Int) = n from by omega]
    have e0 : (a.add (i * 1)).add 0 = a.add i := by
     rw [Nat.mul_one]
     unfold Addr.add; simp
    rw [e0] at g
    exact g
   obtain ⟨f, hf⟩ := Deep.choose_lt hv
   refine ⟨(List.range len).map f, some a, cap, by rw [hcs]; simp, ⟨some a, cap, rfl, by simp; omega, fun j y hj => ?_⟩⟩
   obtain ⟨hjn, rfl⟩ := range_get hj
   obtain ⟨h1, h2⟩ := hf j (by omega)
   have h0 := (hf 0 (by omega)).1
   obtain ⟨b, off, spot⟩ := a
   have hs : spot = none := by simpa [Addr.add] using World.cell?_spot h0
   subst hs
   rw [addr_add] at h1
   exact ⟨b, off, rfl, World.block_lt_of_cell? W _ h1, h1, h2⟩
set_option maxRecDepth 100000 in
theorem mrows_of {fuel : Nat} {v : Value} {x : DataW H × List MemPlace} (h : DataW.trod enc Tryz.prog W 0 (fun _ => true) true fuel 68 [v] = some x) : ∃ M, MRowsAt W v (· < W.heap.size) M := by
 rcases Deep.open_slice_pairs Tryz.underlying68 Tryz.underlying114 Tryz.cellsRow rfl rfl Tryz.cellsAtom Tryz.cellsBytes h with ⟨hcs, _⟩ | ⟨a, len, cap, m, k, V0, V1, D0, D1, P0, P1, hcs, _, hl, hm, hmm, _, hel⟩
 · simp at hcs
   exact ⟨[], none, 0, hcs, by simp, fun j x hj => by simp at hj⟩
 · simp at hcs
   simp at hmm
   obtain rfl : cap = m := hmm.symm
   have hv : ∀ i, i < cap → ∃ r : BRow, ∃ sa sc, W.cell? (a.add (i * 2)) = some (.int .u16 (r.1 : Int)) ∧ W.cell? (a.add (i * 2 + 1)) = some (.slice sa r.2.length sc) ∧ BytesIn W (.slice sa r.2.length sc) (· < W.heap.size) r.2 ∧ r.1 < 65536 := by
    intro i hi
    obtain ⟨g0, g1, t0, t1⟩ := hel i hi
    obtain ⟨n, e0, _, hn⟩ := DataW.trod_int Tryz.underlying62 t0
    have hn2 : 0 ≤ n ∧ n ≤ 65535 := by
     simp only [Lit.wf, Bool.and_eq_true, decide_eq_true_eq] at hn
     exact hn
    obtain ⟨l, sa, sc, e1, hb⟩ := bytes_of t1
    simp at e0
    refine ⟨(n.toNat, l), sa, sc, ?_, ?_, hb, by simp only; omega⟩
    · rw [g0, e0]; simp only; rw [show ((n.toNat : Nat) : Int) = n from by omega]
    · rw [g1, e1]
   obtain ⟨f, hf⟩ := Deep.choose_lt hv
   refine ⟨(List.range len).map f, some a, cap, by rw [hcs]; simp, by simp; omega, fun j y hj => ?_⟩
   obtain ⟨hjn, rfl⟩ := range_get hj
   obtain ⟨sa, sc, h1, h2, h3, h4⟩ := hf j (by omega)
   obtain ⟨_, _, h0, _⟩ := hf 0 (by omega)
   obtain ⟨b, off, spot⟩ := a
   have hs : spot = none := by simpa [Addr.add] using World.cell?_spot h0
   subst hs
   rw [addr_add] at h1 h2
   exact ⟨b, off, sa, sc, rfl, World.block_lt_of_cell? W _ h1, h1, h2, h3, h4⟩
set_option maxRecDepth 100000 in
theorem modelArg_of {cs : Array Value} {d : DataW H} {ps : List MemPlace} (h : DataW.Trod enc Tryz.prog W 0 (fun _ => true) true 70 (.agg cs) d ps) : ∃ m, ModelArg W (.agg cs) m := by
 obtain ⟨fuel, hf⟩ := h
 have hf' : DataW.trod enc Tryz.prog W 0 (fun _ => true) true fuel 70 cs.toList = some (d, ps) := hf
 obtain ⟨y0, y1, n, _, hl, t0, t1⟩ := trod_two Tryz.underlying70 hf'
 rw [Tryz.cellsModel] at hl
 match cs, hl with
 | ⟨[c0, c1]⟩, _ =>
  simp only [Tryz.cellsInt, Tryz.cellsRows, List.drop_zero, List.drop_succ_cons, List.take_succ_cons, List.take_zero] at t0 t1
  obtain ⟨s, e0, _, _⟩ := DataW.trod_int Tryz.underlying3 t0
  obtain ⟨M, hM⟩ := mrows_of t1
  simp at e0
  subst e0
  exact ⟨(s, M), c1, rfl, hM⟩
end
theorem cert7 {w W : World} {b : Nat} {v0 v1 v2 v3 v4 v5 v6 : Value} {t : TypeId} {fz : Nat × Nat} (h : w.heap[b]? = some (.cells #[v0, v1, v2, v3, v4, v5, v6] t fz)) (k : Chg (fun _ => False) w W) :
  W.cell? ⟨b, 0, none⟩ = some v0 ∧ W.cell? ⟨b, 1, none⟩ = some v1 ∧ W.cell? ⟨b, 2, none⟩ = some v2 ∧ W.cell? ⟨b, 3, none⟩ = some v3 ∧ W.cell? ⟨b, 4, none⟩ = some v4 ∧ W.cell? ⟨b, 5, none⟩ = some v5 ∧ W.cell? ⟨b, 6, none⟩ = some v6 :=
 have q := k.obj (fun e => e) h
 ⟨cell_of q rfl, cell_of q rfl, cell_of q rfl, cell_of q rfl, cell_of q rfl, cell_of q rfl, cell_of q rfl⟩
set_option maxHeartbeats 16000000 in
set_option maxRecDepth 100000 in
theorem models_law (w : World) (xv mv : Value) (ra : Option Addr) (R : List BRul) (rc : Nat) (pv lv cv : Value) (P : List (BCert × Value)) (L : List BEnt) (op : Int) (c : List ByteArray) (b : Int) (m : Int × List BRow) (hx : AskArg w xv ra R rc pv lv cv P L op c b) (hm : ModelArg w mv m) :
  Calls Tryz.prog 8 #[xv, mv] w fun e w' => e = .returned (.bool true) ∧ Chg (fun _ => False) w w' := by
 have HX := Lib.hid hx
 obtain ⟨rv, rfl, hrows⟩ := hm
 obtain ⟨N, M⟩ := m
 simp only at hrows ⊢
 have HM := Lib.hid hrows
 obtain ⟨ma, mc, rfl, hml, _⟩ := hrows
 unfold maxLen at hml
 obtain rfl := hx.val
 obtain ⟨la, lcap, rfl, hpl, _⟩ := hx.certs.at_
 obtain ⟨ea, ec, rfl, _, _⟩ := hx.ents.shape
 obtain ⟨ca, cc, rfl, hcl0, _⟩ := hx.set.at_
 unfold maxLen at hpl
 have B1 := obj_alloc_new (w.alloc (.cells #[.slice ra R.length rc, .slice la P.length lcap, .slice ea L.length ec, .int .i64 op, .slice ca c.length cc, .int .i64 b] 28)) (.cells #[.int .i64 N, .slice ma M.length mc] 70)
 rw [World.size_alloc] at B1
 have OX := Lib.hid (obj_alloc (.cells #[.int .i64 N, .slice ma M.length mc] 70) (obj_alloc_new w (.cells #[.slice ra R.length rc, .slice la P.length lcap, .slice ea L.length ec, .int .i64 op, .slice ca c.length cc, .int .i64 b] 28)))
 have OM := Lib.hid B1
 have K2 := Lib.hid ((chg_alloc (fun _ => False) w (.cells #[.slice ra R.length rc, .slice la P.length lcap, .slice ea L.length ec, .int .i64 op, .slice ca c.length cc, .int .i64 b] 28)).trans (chg_alloc _ _ (.cells #[.int .i64 N, .slice ma M.length mc] 70)))
 clear hx B1
 go_enter Tryz.func8, Tryz.ntmps8
 go_wp2_with fail
 generalize (w.alloc (.cells #[.slice ra R.length rc, .slice la P.length lcap, .slice ea L.length ec, .int .i64 op, .slice ca c.length cc, .int .i64 b] 28)).alloc (.cells #[.int .i64 N, .slice ma M.length mc] 70) = w2 at *
 obtain ⟨bx, hbx⟩ : ∃ bx, bx = w.heap.size := ⟨_, rfl⟩
 rw [← hbx] at OX OM
 rw [← hbx]
 clear hbx
 have BX := Lib.hid (fun (W : World) (k : Chg (fun _ => False) w2 W) => cells6 (k.obj (fun e => e) OX.out))
 have MX := Lib.hid (fun (W : World) (k : Chg (fun _ => False) w2 W) => pick_cells OM.out k)
 have AW := Lib.hid (awake17_any w2)
 (with_reducible refine (AW.out).mono ?_)
 rintro e w3 ⟨rfl, k3⟩
 have E3 := Lib.hid k3
 obtain ⟨c0, c1, c2, c3, c4, c5⟩ := BX.out w3 k3
 have LG := Lib.hid (large17_at HX.out (K2.out.trans k3))
 clear k3 AW
 go_wp2_with fail
 clear c0 c1 c2 c3 c4 c5
 (with_reducible refine (LG.out).mono ?_)
 rintro e w4 ⟨lg, rfl, k4, hlg⟩
 have E4 := Lib.hid (E3.out.trans k4)
 clear LG k4 E3
 cases lg with
 | true =>
  as_aux_lemma =>
  go_wp2
  go_ret
  exact ⟨rfl, K2.out.trans E4.out⟩
 | false =>
 have FIT := Lib.hid (hlg rfl)
 clear hlg
 have MY := Lib.hid (mmay w4 N _ _ M (HM.out.chg (K2.out.trans E4.out) (fun _ _ e => e)))
 obtain ⟨m0, m1⟩ := MX.out w4 E4.out
 go_wp2_with fail
 clear m0 m1
 (with_reducible refine (MY.out).mono ?_)
 rintro e w5 ⟨rfl, k5⟩
 have E5 := Lib.hid (E4.out.trans k5)
 clear MY k5 E4
 obtain ⟨c0, c1, c2, c3, c4, c5⟩ := BX.out w5 E5.out
 obtain ⟨m0, m1⟩ := MX.out w5 E5.out
 cases hmm : modB N M with
 | false =>
  as_aux_lemma =>
  clear hmm
  go_wp2
  go_ret
  exact ⟨rfl, K2.out.trans E5.out⟩
 | true =>
 have HMM := Lib.hid hmm
 clear hmm
 by_cases h30 : 30 < M.length
 · as_aux_lemma =>
   have g30 : decide (30 < (M.length : Int)) = true := decide_eq_true (by omega)
   have g30' : decide (30 < M.length) = true := decide_eq_true h30
   go_wp2
   go_ret
   exact ⟨rfl, K2.out.trans E5.out⟩
 have g30 : decide (30 < (M.length : Int)) = false := decide_eq_false (by omega)
 have g30' : decide (30 < M.length) = false := decide_eq_false h30
 by_cases h12 : 12 < R.length
 · as_aux_lemma =>
   have g12 : decide (12 < (R.length : Int)) = true := decide_eq_true (by omega)
   have g12' : decide (12 < R.length) = true := decide_eq_true h12
   go_wp2
   go_ret
   exact ⟨rfl, K2.out.trans E5.out⟩
 have g12 : decide (12 < (R.length : Int)) = false := decide_eq_false (by omega)
 have g12' : decide (12 < R.length) = false := decide_eq_false h12
 go_wp2_with fail
 clear g12 g12' g30 g30' h30 c0 c1 c2 c3 c4 c5 m0 m1
 go_loopw [43] (fun iv wr => ∃ k : Nat, k ≤ R.length ∧ iv = .int .i64 k ∧ Hid ((∀ r ∈ R.take k, countsB (brul r) = true → SubR (relW (modF M) r.1.data.toList) (relW (modF M) r.2.data.toList)) ∧ Chg (fun _ => False) w2 wr)) (fun iv _ => R.length - (intOf iv).toNat)
 case atStart => exact ⟨0, by omega, rfl, Lib.hid ⟨fun x hx => by simp at hx, E5.out⟩⟩
 case round =>
 obtain ⟨k, hk, rfl, HI⟩ := hrel
 by_cases hlt : k < R.length
 · as_aux_lemma =>
   obtain ⟨⟨x, y⟩, hx⟩ : ∃ x, R[k]? = some x := ⟨_, List.getElem?_eq_getElem hlt⟩
   obtain ⟨z1, z2⟩ := HX.out.fit.1 (x, y) (List.mem_of_getElem? hx)
   simp only at z1 z2
   obtain ⟨_, _, e1, _, hcl⟩ := HX.out.rules.at_.chg (K2.out.trans HI.out.2) (fun _ _ e => e)
   cases e1
   obtain ⟨lb, lo, rfl, _, q0, q1, _, _⟩ := hcl k (x, y) hx
   simp only at q0 q1
   have kr := chg_alloc (fun _ => False) wr (.cells #[.string x, .string y] 66)
   have OR := Lib.hid (obj_alloc_new wr (.cells #[.string x, .string y] 66))
   have KR := Lib.hid (HI.out.2.trans kr)
   have V1 := Lib.hid (mholds (wr.alloc (.cells #[.string x, .string y] 66)) N _ _ M (x, y) (HM.out.chg (K2.out.trans KR.out) (fun _ _ e => e)) (by simp only; unfold maxLen; omega) (by simp only; unfold maxLen; omega))
   have V2 := Lib.hid (fun W => rcounts_any W (x, y) z1 z2)
   unfold ruleV at V2
   have NX := Lib.hid (fun (q : countsB (brul (x, y)) = true → SubR (relW (modF M) x.data.toList) (relW (modF M) y.data.toList)) => show ∀ r ∈ R.take (k + 1), countsB (brul r) = true → SubR (relW (modF M) r.1.data.toList) (relW (modF M) r.2.data.toList) from fun r hr => by
    rw [List.take_add_one, hx] at hr
    rcases List.mem_append.1 hr with z | z
    · exact HI.out.1 r z
    · simp at z; subst z; exact q)
   obtain ⟨m0, m1⟩ := MX.out _ KR.out
   have e0 := cell_of (o := 0) OR.out rfl
   have e1 := cell_of (o := 1) OR.out rfl
   simp only at V1 V2
   generalize countsB (brul (x, y)) = cb at *
   clear HI hcl hx z1 z2 kr
   go_wp2_with fail
   clear m0 m1 e0 e1 q0 q1
   generalize wr.alloc (.cells #[.string x, .string y] 66) = w6 at *
   generalize wr.heap.size = b6 at *
   (with_reducible refine (V1.out).mono ?_)
   rintro e w7 ⟨⟨hb, hk2, rfl, hq⟩, k7⟩
   have HQ := Lib.hid hq
   have K7 := Lib.hid (KR.out.trans k7)
   have e0 := cell_of (o := 0) (k7.obj (fun e => e) OR.out) rfl
   have e1 := cell_of (o := 1) (k7.obj (fun e => e) OR.out) rfl
   clear V1 hq k7
   go_wp2_with fail
   clear e0 e1
   (with_reducible refine (V2.out w7).mono ?_)
   rintro e w8 ⟨rfl, k8⟩
   have K8 := Lib.hid (K7.out.trans k8)
   clear V2 k8
   cases cb with
   | false =>
    have N2 := Lib.hid (NX.out (fun e => by cases e))
    clear NX HQ
    go_wp2
    go_roundw
    case rel => exact ⟨k + 1, by omega, by go_num, Lib.hid ⟨N2.out, K8.out⟩⟩
    case measure => simp [intOf]; omega
   | true =>
    cases hb with
    | false =>
     clear NX HQ
     go_wp2
     go_ret
     exact ⟨rfl, K2.out.trans K8.out⟩
    | true =>
     have N2 := Lib.hid (NX.out (fun _ => HQ.out rfl))
     clear NX HQ
     go_wp2
     go_roundw
     case rel => exact ⟨k + 1, by omega, by go_num, Lib.hid ⟨N2.out, K8.out⟩⟩
     case measure => simp [intOf]; omega
 obtain rfl : k = R.length := by omega
 have HRT := Lib.hid (show ∀ r ∈ R, countsB (brul r) = true → HoldsR (modF M) (brul r) from fun r hr => HI.out.1 r (by rw [List.take_length]; exact hr))
 have E6 := Lib.hid HI.out.2
 clear HI E5
 generalize wr = w6 at *
 obtain ⟨c0, c1, c2, c3, c4, c5⟩ := BX.out w6 E6.out
 go_wp2_with fail
 clear c0 c1 c2 c3 c4 c5
 go_loopw [63] (fun iv wr => ∃ k : Nat, k ≤ P.length ∧ iv = .int .i64 k ∧ Hid ((∀ x ∈ (certsOf P).take k, HonestR (modF M) x) ∧ Chg (fun _ => False) w2 wr)) (fun iv _ => P.length - (intOf iv).toNat)
 case atStart => exact ⟨0, by omega, rfl, Lib.hid ⟨fun x hx => by simp at hx, E6.out⟩⟩
 case round =>
 obtain ⟨k, hk, rfl, HI⟩ := hrel
 by_cases hlt : k < P.length
 · as_aux_lemma =>
   obtain ⟨⟨cc1, sv⟩, hx⟩ : ∃ x, P[k]? = some x := ⟨_, List.getElem?_eq_getElem hlt⟩
   have GX := Lib.hid (certsOf_get hx)
   obtain ⟨_, _, e1, _, hcl⟩ := HX.out.certs.at_.chg (K2.out.trans HI.out.2) (fun _ _ e => e)
   cases e1
   obtain ⟨g, o, sa, sc, rfl, _, e2, q0, q1, q2, q3, q4, q5, q6, hca⟩ := hcl k (cc1, sv) hx
   simp only at q0 q1 q2 q3 q4 q5 q6 hca
   have kr := chg_alloc (fun _ => False) wr (.cells #[.int .i64 cc1.kind, .int .u16 (cc1.sg : Int), .string cc1.sp, .slice sa cc1.fr.length sc, .int .i64 cc1.f, .int .i64 cc1.t, .int .i64 cc1.n] 64)
   have OR := Lib.hid (obj_alloc_new wr (.cells #[.int .i64 cc1.kind, .int .u16 (cc1.sg : Int), .string cc1.sp, .slice sa cc1.fr.length sc, .int .i64 cc1.f, .int .i64 cc1.t, .int .i64 cc1.n] 64))
   have KR := Lib.hid (HI.out.2.trans kr)
   have V1 := Lib.hid (mhonest (wr.alloc (.cells #[.int .i64 cc1.kind, .int .u16 (cc1.sg : Int), .string cc1.sp, .slice sa cc1.fr.length sc, .int .i64 cc1.f, .int .i64 cc1.t, .int .i64 cc1.n] 64)) N _ _ _ M cc1 sa sc (HM.out.chg (K2.out.trans KR.out) (fun _ _ e => e)) (hca.chg kr (fun _ _ e => e)))
   unfold certV at V1
   have NX := Lib.hid (fun (q : HonestR (modF M) cc1) => show ∀ r ∈ (certsOf P).take (k + 1), HonestR (modF M) r from fun r hr => by
    rw [List.take_add_one, GX.out] at hr
    rcases List.mem_append.1 hr with z | z
    · exact HI.out.1 r z
    · simp at z; subst z; exact q)
   have HH := Lib.hid (show Hon (modF M) cc1 → HonestR (modF M) cc1 from id)
   obtain ⟨m0, m1⟩ := MX.out _ KR.out
   obtain ⟨e0, e1, e3, e4, e5, e6, e7⟩ := cert7 OR.out (Chg.refl _ _)
   clear HI hcl hx kr hca e2 GX
   go_wp2_with fail
   clear m0 m1 e0 e1 e3 e4 e5 e6 e7 q0 q1 q2 q3 q4 q5 q6
   (with_reducible refine (V1.out).mono ?_)
   rintro e w7 ⟨⟨hb, hk2, rfl, hq⟩, k7⟩
   have K7 := Lib.hid (KR.out.trans k7)
   clear V1 k7
   cases hb with
   | false =>
    clear NX hq
    go_wp2
    go_ret
    exact ⟨rfl, K2.out.trans K7.out⟩
   | true =>
    have N2 := Lib.hid (NX.out (HH.out (hq rfl)))
    clear NX hq HH
    go_wp2
    go_roundw
    case rel => exact ⟨k + 1, by omega, by go_num, Lib.hid ⟨N2.out, K7.out⟩⟩
    case measure => simp [intOf]; omega
 obtain rfl : k = P.length := by omega
 have HCT := Lib.hid (show ∀ x ∈ certsOf P, HonestR (modF M) x from fun x hx => HI.out.1 x (by rw [← certsOf_length P, List.take_length]; exact hx))
 have E7 := Lib.hid HI.out.2
 clear HI E6
 generalize wr = w7 at *
 have A4 := FIT.out.ask HX.out (K2.out.trans E7.out)
 have D1 := Lib.hid (adec_any w7 ra R rc _ _ _ P L op c b _ A4)
 have GR := Lib.hid (@grant_speaks (modF M) R (certsOf P) L op c b)
 have GD := Lib.hid (@decE_good R (certsOf P) L op c b)
 obtain ⟨c0, c1, c2, c3, c4, c5⟩ := BX.out w7 E7.out
 clear A4
 go_wp2_with fail
 clear c0 c1 c2 c3 c4 c5
 (with_reducible refine (D1.out).mono ?_)
 rintro e w8 ⟨rfl, k8⟩
 have E8 := Lib.hid (E7.out.trans k8)
 clear D1 k8 E7
 by_cases h1 : (decE R (certsOf P) L op c b).2.ans = 1
 rotate_left
 · as_aux_lemma =>
   have g1 : ((decE R (certsOf P) L op c b).2.ans != 1) = true := bne_iff_ne.2 h1
   clear h1 GR GD
   generalize (decE R (certsOf P) L op c b).2.ans = a1 at *
   generalize (decE R (certsOf P) L op c b).1 = a2 at *
   go_wp2
   go_ret
   exact ⟨rfl, K2.out.trans E8.out⟩
 by_cases h0 : (decE R (certsOf P) L op c b).1 = 0
 rotate_left
 · as_aux_lemma =>
   have g1 : ((decE R (certsOf P) L op c b).1 != 0) = true := bne_iff_ne.2 h0
   rw [h1]
   clear h1 h0 GR GD
   generalize (decE R (certsOf P) L op c b).1 = a2 at *
   go_wp2
   go_ret
   exact ⟨rfl, K2.out.trans E8.out⟩
 have SP := Lib.hid (GR.out h0 h1 HRT.out HCT.out)
 have LB := Lib.hid (listB_iff.1 (GD.out h0).1)
 rw [h0, h1]
 clear h0 h1 GR GD HRT HCT
 obtain ⟨c0, c1, c2, c3, c4, c5⟩ := BX.out w8 E8.out
 go_wp2_with fail
 clear c0 c1 c2 c3 c4 c5
 have hfl := FIT.out.ents
 go_loopw [90] (fun iv wr => ∃ k : Nat, k ≤ L.length ∧ iv = .int .i64 k ∧ Hid ((∃ (i : Nat) (x : BEnt), k ≤ i ∧ L[i]? = some x ∧ x.1 = op ∧ SubR (relS (modF M) x.2) (relS (modF M) c)) ∧ Chg (fun _ => False) w2 wr)) (fun iv _ => L.length - (intOf iv).toNat)
 case atStart => exact ⟨0, by omega, rfl, Lib.hid ⟨by
  obtain ⟨x, hx, h1, h2⟩ := SP.out
  obtain ⟨i, hi⟩ := List.mem_iff_getElem?.1 hx
  exact ⟨i, x, Nat.zero_le _, hi, h1, h2⟩, E8.out⟩⟩
 case round =>
 obtain ⟨k, hk, rfl, HI⟩ := hrel
 by_cases hlt : k < L.length
 rotate_left
 · exfalso
   obtain ⟨i, x, h1, h2, _⟩ := HI.out.1
   have := (List.getElem?_eq_some_iff.1 h2).1
   omega
 obtain ⟨⟨eo, es⟩, hx⟩ : ∃ x, L[k]? = some x := ⟨_, List.getElem?_eq_getElem hlt⟩
 obtain ⟨g, o, sa, sc, rfl, _, q0, q1, hset⟩ := (HX.out.ents.chg (K2.out.trans HI.out.2) (fun _ _ e => e)).get hx
 simp only at q0 q1 hset
 have kr := chg_alloc (fun _ => False) wr (.cells #[.int .i64 eo, .slice sa es.length sc] 56)
 have OR := Lib.hid (obj_alloc_new wr (.cells #[.int .i64 eo, .slice sa es.length sc] 56))
 have KR := Lib.hid (HI.out.2.trans kr)
 have V1 := Lib.hid (mspeaks (wr.alloc (.cells #[.int .i64 eo, .slice sa es.length sc] 56)) N _ _ _ _ M _ _ c es (HM.out.chg (K2.out.trans KR.out) (fun _ _ e => e)) (HX.out.set.at_.chg (K2.out.trans KR.out) (fun _ _ e => e)) (hset.at_.chg kr (fun _ _ e => e)))
 have SE := Lib.hid (show setB es = true from new_may LB.out.2.1 (eo, es) (List.mem_of_getElem? hx))
 have NX := Lib.hid (fun (q : ¬ (eo = op ∧ SubR (relS (modF M) es) (relS (modF M) c))) => show ∃ (i : Nat) (x : BEnt), k + 1 ≤ i ∧ L[i]? = some x ∧ x.1 = op ∧ SubR (relS (modF M) x.2) (relS (modF M) c) from by
  obtain ⟨i, x, h1, h2, h3, h4⟩ := HI.out.1
  refine ⟨i, x, ?_, h2, h3, h4⟩
  by_cases e : i = k
  · subst e
    rw [hx] at h2
    cases h2
    exact absurd ⟨h3, h4⟩ q
  · omega)
 obtain ⟨m0, m1⟩ := MX.out _ KR.out
 obtain ⟨c0, c1, c2, c3, c4, c5⟩ := BX.out _ KR.out
 obtain ⟨y0, y1⟩ := pick_cells OR.out (Chg.refl _ _)
 clear HI kr hx hset SP
 go_wp2_with fail
 clear m0 m1 c0 c1 c2 c3 c4 c5 y0 y1 q0 q1
 generalize wr.alloc (.cells #[.int .i64 eo, .slice sa es.length sc] 56) = w9 at *
 generalize wr.heap.size = b9 at *
 (with_reducible refine (V1.out).mono ?_)
 rintro e w10 ⟨⟨hb, hk2, rfl, hq⟩, k10⟩
 have K10 := Lib.hid (KR.out.trans k10)
 have HQ := Lib.hid (fun q => hq HMM.out LB.out.1 SE.out q)
 obtain ⟨c0, c1, c2, c3, c4, c5⟩ := BX.out _ K10.out
 obtain ⟨y0, y1⟩ := pick_cells OR.out k10
 clear V1 k10 hq
 by_cases ho : eo = op
 rotate_left
 · have g1 : (eo == op) = false := beq_eq_false_iff_ne.2 ho
   have N2 := Lib.hid (NX.out (fun q => ho q.1))
   clear NX HQ ho
   go_wp2
   go_roundw
   case rel => exact ⟨k + 1, by omega, by go_num, Lib.hid ⟨N2.out, K10.out⟩⟩
   case measure => simp [intOf]; omega
 subst ho
 cases hb with
 | false =>
  have N2 := Lib.hid (NX.out (fun q => by have := (HQ.out q.2).1; cases this))
  clear NX HQ
  go_wp2
  go_roundw
  case rel => exact ⟨k + 1, by omega, by go_num, Lib.hid ⟨N2.out, K10.out⟩⟩
  case measure => simp [intOf]; omega
 | true =>
 by_cases hk0 : hk2 = 0
 · subst hk0
   clear NX HQ
   go_wp2
   go_ret
   exact ⟨rfl, K2.out.trans K10.out⟩
 · have g1 : (hk2 == 0) = false := beq_eq_false_iff_ne.2 hk0
   have N2 := Lib.hid (NX.out (fun q => hk0 (HQ.out q.2).2))
   clear NX HQ hk0
   go_wp2
   go_roundw
   case rel => exact ⟨k + 1, by omega, by go_num, Lib.hid ⟨N2.out, K10.out⟩⟩
   case measure => simp [intOf]; omega
end Go.Proofs.YthdfplafihmejaaGreat
