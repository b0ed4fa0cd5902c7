/-
  Package proof: what Make answers, in plain Lean; the path's contract with a row of its own.
  Package proof: Make.
-/
import Derived.Test.YthdfplafihmejaaGreatQCut
import Derived.Test.YthdfplafihmejaaGreatQReach
import Derived.Test.YthdfplafihmejaaGreatURun
namespace Go.Proofs.YthdfplafihmejaaGreat
open Go.RowKit Go.Maps

def castS (h : Nat × Nat) : Int × Int := ((h.1 : Int), (h.2 : Int))
theorem scells_cast (l : List (Nat × Nat)) : scells (l.map castS) = hcells l := by unfold scells hcells; rw [List.flatMap_map]; rfl
theorem walkP_small {R : List Rul} : ∀ {l : List (Nat × Nat)} {w u : Wd}, mayB w = true → walkP R w l = some u → mayB u = true ∧ ∀ h ∈ l, h.1 ≤ 8 ∧ h.2 < R.length
 | [], w, u, hw, hu => by cases hu; exact ⟨hw, fun h hh => by cases hh⟩
 | (a, k) :: t, w, u, hw, hu => by
  unfold walkP at hu
  split at hu
  ·rename_i hm
   have hs := step_hits.2 hm
   have h1 : stepI R w ((a : Int), (k : Int)) = some (useAt R w (a, k)) := by
    unfold stepI
    rw [if_pos hs]
    simp only [Int.toNat_natCast]
   obtain ⟨m1, m2⟩ := walkP_small (stepI_may hw h1).1 hu
   obtain ⟨_, s2, _, s4, s5, _⟩ := hs
   simp only at s2 s4 s5
   have h8 := (may_good.1 hw).2.2
   refine ⟨m1, fun h hh => ?_⟩
   rcases List.mem_cons.1 hh with rfl | hh
   ·exact ⟨by simp only; omega, by simp only; omega⟩
   ·exact m2 h hh
  ·cases hu
/-- The steps that are told lead there. -/
theorem tellP_good {R : List BRul} {s t : ByteArray} {b : Int} (h : tellPE R s t b = 0) : mayB s.data.toList = true ∧ R.length ≤ 400 ∧ ∃ l : List (Nat × Nat), tellP R s t b = l.map castS ∧ l.length ≤ 5000 ∧ walkP (R.map brul) s.data.toList l = some t.data.toList := by
 unfold tellP
 rw [if_pos h]
 unfold tellPE at h
 by_cases h0 : rowErr R s b = 0
 ·rw [if_pos h0] at h
  obtain ⟨ha, r, hr⟩ := rowErr_zero h0
  obtain ⟨m1, m2, m3, m4⟩ := askErr_zero ha
  obtain ⟨s1, s2, s3⟩ := row_some (by omega) hr
  have er : rowD R s b = r := by unfold rowD; rw [hr]; rfl
  rw [er] at h ⊢
  by_cases hin : t.data.toList ∈ wordsR r
  ·obtain ⟨i1, i2⟩ := wordAt_idx hin
   obtain ⟨p1, p2⟩ := path_walks (row_from hr) _ i1
   rw [i2] at p1
   exact ⟨m1, m4, _, rfl, by omega, p1⟩
  ·rw [if_neg hin] at h
   cases h
 ·rw [if_neg h0] at h
  exact absurd h h0
theorem tellP_small (R : List BRul) (s t : ByteArray) (b : Int) : (tellP R s t b).length ≤ 5000 ∧ ∀ x ∈ tellP R s t b, 0 ≤ x.1 ∧ x.1 ≤ 8 ∧ 0 ≤ x.2 ∧ x.2 < R.length ∧ R.length ≤ 400 := by
 by_cases h : tellPE R s t b = 0
 ·obtain ⟨h1, hR, l, h2, h3, h4⟩ := tellP_good h
  rw [h2]
  refine ⟨by rw [List.length_map]; exact h3, fun x hx => ?_⟩
  obtain ⟨y, hy, rfl⟩ := List.mem_map.1 hx
  obtain ⟨q1, q2⟩ := (walkP_small h1 h4).2 y hy
  rw [List.length_map] at q2
  unfold castS
  simp only
  omega
 ·unfold tellP
  rw [if_neg h]
  exact ⟨Nat.zero_le _, fun x hx => by cases hx⟩
theorem tellP_fit (R : List BRul) (s t : ByteArray) (b : Int) : StepsFit (tellP R s t b) := fun x hx => by
 have := (tellP_small R s t b).2 x hx
 unfold Fit64
 omega
theorem back_tell {R : List BRul} {b : Int} {c : BCert} (h : backC R b c = (true, 0)) : ∀ f ∈ c.fr, tellPE R f (atomW c.sg) b = 0 := fun f hf => by
 obtain ⟨h1, h2⟩ := back_yes.1 h f hf
 unfold tellB at h2
 rw [if_pos h1, decide_eq_true_iff] at h2
 unfold tellPE
 rw [if_pos h1, if_pos h2]
section
variable {w : World} {v : Value} {R : List BRul} {s : ByteArray} {b : Int}
theorem path_row (hA : Asks w v R s) (t : ByteArray) (ht : t.size ≤ maxLen) (h : tellPE R s t b = 0) : Calls Tryz.prog 123 #[v, .string s, .string t, .int .i64 b] w fun e w' => ∃ va, e = .returned (.tuple #[va, .int .i64 0]) ∧ w'.ownsRow w.heap.size 153 2 va (tellP R s t b).length (scells (tellP R s t b)) ∧ Chg (fun _ => False) w w' := by
 unfold tellP
 rw [if_pos h]
 unfold tellPE at h
 by_cases h0 : rowErr R s b = 0
 ·rw [if_pos h0] at h
  obtain ⟨_, r, hr⟩ := rowErr_zero h0
  have er : rowD R s b = r := by unfold rowD; rw [hr]; rfl
  rw [er] at h ⊢
  by_cases hin : t.data.toList ∈ wordsR r
  ·have e2 := scells_cast (pathOf r ((wordsR r).idxOf t.data.toList))
   unfold castS at e2
   rw [e2, List.length_map]
   exact path_ok hA t ht h0 hr hin
  ·rw [if_neg hin] at h
   cases h
 ·rw [if_neg h0] at h
  exact absurd h h0
theorem path_no (hA : Asks w v R s) (t : ByteArray) (ht : t.size ≤ maxLen) (h : tellPE R s t b ≠ 0) : Calls Tryz.prog 123 #[v, .string s, .string t, .int .i64 b] w fun e w' => e = .returned (.tuple #[.slice none 0 0, .int .i64 (tellPE R s t b)]) ∧ Chg (fun _ => False) w w' := by
 by_cases h0 : rowErr R s b = 0
 ·obtain ⟨_, r, hr⟩ := rowErr_zero h0
  have er : rowD R s b = r := by unfold rowD; rw [hr]; rfl
  unfold tellPE at h ⊢
  rw [if_pos h0, er] at h ⊢
  by_cases hin : t.data.toList ∈ wordsR r
  ·rw [if_pos hin] at h
   exact absurd rfl h
  ·rw [if_neg hin]
   exact path_none hA t ht h0 hr hin
 ·unfold tellPE
  rw [if_neg h0]
  exact path_err hA t rfl h0
end
/-- The items of a proof that isn't cut yet. -/
def pathsM (R : List BRul) (b : Int) (c : BCert) : List BSteps := c.fr.map fun f => tellP R f (atomW c.sg) b
def itemM (C : List BCert) (R : List BRul) (b : Int) (O : List Nat) (k : Nat) : BItem := ⟨(O.getD k 0 : Nat), match C[O.getD k 0]? with
 | some c => pathsM (R ++ rulesOf C (O.take k)) b c
 | none => []⟩
def itemsM (C : List BCert) (R : List BRul) (b : Int) (O : List Nat) (n : Nat) : List BItem := (List.range n).map (itemM C R b O)
theorem itemsM_succ (C : List BCert) (R : List BRul) (b : Int) (O : List Nat) (n : Nat) : itemsM C R b O (n + 1) = itemsM C R b O n ++ [itemM C R b O n] := by
 unfold itemsM
 rw [List.range_succ, List.map_append]; rfl
theorem itemM_at {C : List BCert} {R : List BRul} {b : Int} {O : List Nat} {k i : Nat} {c : BCert} (h : O[k]? = some i) (hc : C[i]? = some c) : itemM C R b O k = ⟨(i : Int), pathsM (R ++ rulesOf C (O.take k)) b c⟩ := by
 unfold itemM
 rw [List.getD_eq_getElem?_getD, h]
 simp only [Option.getD_some, hc]
def wholeM (R : List BRul) (C : List BCert) (b : Int) (s : ASt) (x u : ByteArray) : BProof := ⟨itemsM C R b s.order s.order.length, tellP s.rules x u b⟩
open Classical in
noncomputable def makeE (R : List BRul) (C : List BCert) (x u : ByteArray) (b : Int) : Int × BProof := match acceptE R C b with
 | .error k => (k, ⟨[], []⟩)
 | .ok s => if tellPE s.rules x u b = 0 then (if CutOk R.length C (wholeM R C b s x u) then (0, cutE R.length C (wholeM R C b s x u)) else (2, ⟨[], []⟩)) else (tellPE s.rules x u b, ⟨[], []⟩)
theorem wholeM_fit {R : List BRul} {C : List BCert} {b : Int} {s : ASt} (h : AInv R C b s) (hC : C.length ≤ 1000) (hF : ∀ c ∈ C, c.fr.length ≤ 1000) (x u : ByteArray) : ProofFit (wholeM R C b s x u) ∧ (wholeM R C b s x u).items.length ≤ 1000 ∧ (wholeM R C b s x u).steps.length ≤ 1000000 ∧ ∀ y ∈ (wholeM R C b s x u).items, y.paths.length ≤ 1000 ∧ ∀ l ∈ y.paths, l.length ≤ 1000000 := by
 have ho : s.order.length ≤ C.length := nodup_len h.nd h.lt
 have key : ∀ y ∈ (wholeM R C b s x u).items, ∃ (i : Nat) (c : BCert) (Q : List BRul), i < C.length ∧ c ∈ C ∧ y = ⟨(i : Int), pathsM Q b c⟩ := fun y hy => by
  obtain ⟨k, hk, rfl⟩ := List.mem_map.1 hy
  rw [List.mem_range] at hk
  obtain ⟨i, hi⟩ : ∃ i, s.order[k]? = some i := ⟨_, List.getElem?_eq_getElem hk⟩
  have hic := h.lt i (List.mem_of_getElem? hi)
  obtain ⟨c, hc⟩ : ∃ c, C[i]? = some c := ⟨_, List.getElem?_eq_getElem hic⟩
  exact ⟨i, c, _, hic, List.mem_of_getElem? hc, itemM_at hi hc⟩
 refine ⟨⟨fun y hy => ?_, tellP_fit _ _ _ _⟩, ?_, Nat.le_trans (tellP_small _ _ _ _).1 (by omega), fun y hy => ?_⟩
 ·obtain ⟨i, c, Q, hi, _, rfl⟩ := key y hy
  refine ⟨by unfold Fit64; simp only; omega, fun l hl => ?_⟩
  obtain ⟨f, _, rfl⟩ := List.mem_map.1 hl
  exact tellP_fit _ _ _ _
 ·unfold wholeM itemsM
  simp only
  rw [List.length_map, List.length_range]
  omega
 ·obtain ⟨i, c, Q, _, hc, rfl⟩ := key y hy
  refine ⟨by simp only; unfold pathsM; rw [List.length_map]; exact hF c hc, fun l hl => ?_⟩
  obtain ⟨f, _, rfl⟩ := List.mem_map.1 hl
  exact Nat.le_trans (tellP_small _ _ _ _).1 (by omega)
/-- The rules ahead of an item. -/
theorem rules_ahead {R : List BRul} {C : List BCert} {b : Int} {s : ASt} (h : AInv R C b s) (k : Nat) : s.rules.take (R.length + (rulesOf C (s.order.take k)).length) = R ++ rulesOf C (s.order.take k) ∧ R.length + (rulesOf C (s.order.take k)).length ≤ s.rules.length := by
 have e : s.rules = (R ++ rulesOf C (s.order.take k)) ++ rulesOf C (s.order.drop k) := by
  rw [h.rules, List.append_assoc]
  unfold rulesOf
  rw [← List.flatMap_append, List.take_append_drop]
 rw [e, ← List.length_append, List.take_append_of_le_length (Nat.le_refl _), List.take_length]
 exact ⟨rfl, by rw [List.length_append (bs := rulesOf C (s.order.drop k))]; omega⟩
/-- What Make answers. -/
def MakeRes (w : World) (q : Int × BProof) (e : Ending) (w' : World) : Prop := Chg (fun _ => False) w w' ∧
 ∃ iv sv, e = .returned (.tuple #[.agg #[iv, sv], .int .i64 q.1]) ∧ ItemsAt w' iv (fun k => w.heap.size ≤ k ∧ k < w'.heap.size) q.2.items ∧ w'.ownsRow w.heap.size 153 2 sv q.2.steps.length (scells q.2.steps)
theorem items_nil (w : World) (G : Nat → Prop) : ItemsAt w (.slice none 0 0) G [] := ⟨none, 0, rfl, by simp, fun j x hj => by simp at hj⟩
theorem own_none (w : World) (base : Nat) (e : TypeId) (size : Nat) : w.ownsRow base e size (.slice none 0 0) 0 [] := ⟨by simp, .inl ⟨rfl, rfl⟩⟩
end Go.Proofs.YthdfplafihmejaaGreat

namespace Go.Proofs.YthdfplafihmejaaGreat
open Go.RowKit Go.Maps

theorem rulesAt_take {w : World} {la : Option Addr} {n cap m : Nat} {G : Nat → Prop} {R : List BRul} (h : RulesAt w (.slice la n cap) G R) (hm : m ≤ R.length) : RulesAt w (.slice la m cap) G (R.take m) := by
 obtain ⟨la', cap', e, h2, h3⟩ := h
 cases e
 have hl : (R.take m).length = m := by rw [List.length_take]; omega
 refine ⟨la, cap, by rw [hl], by rw [hl]; omega, fun j r hj => ?_⟩
 rw [List.getElem?_take] at hj
 split at hj
 ·exact h3 j r hj
 ·cases hj
theorem atomW_size13 (a : Nat) : (atomW a).size = 2 := by simp [atomW, ofAtoms, ByteArray.size]
/-- What the walk of Make leans on, behind the proof's box. -/
structure MkAt (W : World) (b0 bR base : Nat) (oa va : Option Addr) (oc vc : Nat) (s : ASt) (vp : Value) (wb : Nat) (L : BSteps) : Prop where
 out : W.heap[b0]? = some (.cells #[.slice none 0 0, .slice none 0 0] 83 (0, 0))
 res : W.heap[bR]? = some (.cells #[.slice oa s.order.length oc, .slice va s.rules.length vc] 165 (0, 0))
 ord : W.ownsRow base 3 1 (.slice oa s.order.length oc) s.order.length (ints s.order)
 rul : W.ownsRow base 66 2 (.slice va s.rules.length vc) s.rules.length (ruleCells s.rules)
 stp : W.ownsRow wb 153 2 vp L.length (scells L)
theorem MkAt.chg {W W' : World} {b0 bR base : Nat} {oa va : Option Addr} {oc vc : Nat} {s : ASt} {vp : Value} {wb : Nat} {L : BSteps} (h : MkAt W b0 bR base oa va oc vc s vp wb L) {S : Nat → Prop} (k : Chg S W W') (hS : ∀ i, S i → W.heap.size ≤ i) : MkAt W' b0 bR base oa va oc vc s vp wb L := by
 have ne : ∀ {i : Nat}, i < W.heap.size → ¬ S i := fun h e => by have := hS _ e; omega
 exact ⟨k.obj (ne (lt_of_obj h.out)) h.out, k.obj (ne (lt_of_obj h.res)) h.res, own_chg h.ord k (fun i hi => ne (h.ord.lt i hi).2), own_chg h.rul k (fun i hi => ne (h.rul.lt i hi).2), own_chg h.stp k (fun i hi => ne (h.stp.lt i hi).2)⟩
set_option maxHeartbeats 16000000 in
set_option maxRecDepth 100000 in
theorem make_any (w : World) (ra : Option Addr) (R : List BRul) (rc : Nat) (v : Value) (P : List (BCert × Value)) (G : Nat → Prop) (b : Int) (x u : ByteArray) (h : RunArgs w ra R rc v P G) (hx : x.size ≤ maxLen) (hu : u.size ≤ maxLen) (hF : ∀ c ∈ certsOf P, c.fr.length ≤ 1000) :
  Calls Tryz.prog 96 #[.slice ra R.length rc, v, .string x, .string u, .int .i64 b] w (MakeRes w (makeE R (certsOf P) x u b)) := by
 have HA := Lib.hid h
 have HX := Lib.hid hx
 have HU := Lib.hid hu
 have RSZ := Lib.hid (show R.length ≤ 400 → ∀ r ∈ R, r.1.size ≤ 400 ∧ r.2.size ≤ maxLen from fun hl r hr => ⟨h.size hl r hr, by
  obtain ⟨_, _, _, _, q⟩ := h.rules
  obtain ⟨j, hj⟩ := List.mem_iff_getElem?.1 hr
  obtain ⟨_, _, _, _, _, _, q2⟩ := q j r hj
  exact q2.2⟩)
 obtain ⟨la, lcap, rfl, _, _⟩ := h.certs
 have k1 := chg_alloc (fun _ => False) w (.cells #[.slice none 0 0, .slice none 0 0] 83)
 have O1 := Lib.hid (obj_alloc_new w (.cells #[.slice none 0 0, .slice none 0 0] 83))
 have K1 := Lib.hid k1
 have h1 := h.chg k1
 clear k1 h hx hu
 cases hacc : acceptE R (certsOf P) b with
 | error k =>
  as_aux_lemma =>
  have ME : makeE R (certsOf P) x u b = (k, ⟨[], []⟩) := by unfold makeE; rw [hacc]
  rw [ME]
  have RUN := Lib.hid (run_err h1 hacc)
  clear hacc ME h1
  go_enter Tryz.func96, Tryz.ntmps96
  go_wp2_with fail
  generalize w.alloc (.cells #[.slice none 0 0, .slice none 0 0] 83) = w1 at *
  (with_reducible refine (RUN.out).mono ?_)
  rintro e w2 ⟨hk0, rfl, k2⟩
  have kb := chg_alloc (fun _ => False) w2 (.cells #[.slice none 0 0, .slice none 0 0] 165)
  have O1b := Lib.hid (kb.obj (fun e => e) (k2.obj (fun e => e) O1.out))
  have KB := Lib.hid (K1.out.trans (k2.trans kb))
  have g0 : (k != 0) = true := by rw [bne_iff_ne]; exact hk0
  have d0 := cell_of (o := 0) O1b.out rfl
  have e0 := frozen_of (o := 0) O1b.out
  have d1 := cell_of (o := 1) O1b.out rfl
  have e1 := frozen_of (o := 1) O1b.out
  clear kb RUN k2 hk0
  go_wp2
  obtain ⟨W, hW⟩ : ∃ W, W = ((w2.alloc (.cells #[.slice none 0 0, .slice none 0 0] 165)).setCell ⟨w.heap.size, 0, none⟩ (.slice none 0 0)).setCell ⟨w.heap.size, 1, none⟩ (.slice none 0 0) := ⟨_, rfl⟩
  rw [← hW]
  obtain ⟨ob, kW⟩ := set2 O1b.out _ _ W hW
  clear hW
  have z0 : W.cell? ⟨w.heap.size, 0, none⟩ = some (.slice none 0 0) := cell_of ob rfl
  have z1 : W.cell? ⟨w.heap.size, 1, none⟩ = some (.slice none 0 0) := cell_of ob rfl
  refine bodyPost_ret (v := .tuple #[.agg #[.slice none 0 0, .slice none 0 0], .int .i64 k]) (by simp [results, Tryz.results96, go_sem, z0, z1]) rfl ?_
  exact ⟨KB.out.next kW (fun k hk e => by omega), _, _, rfl, items_nil _ _, own_none _ _ _ _⟩
 | ok s =>
 have RUN := Lib.hid (run_ok h1 hacc)
 obtain ⟨hc1, hc2, hc3, hc4⟩ := accept_ok hacc
 have INV := Lib.hid (accept_fin hacc).1.inv
 have FEW := Lib.hid (RunOk.few hacc (RSZ.out (by omega)))
 clear hc1 hc2 hc3 hc4 h1 RSZ
 generalize hq : makeE R (certsOf P) x u b = q
 go_enter Tryz.func96, Tryz.ntmps96
 go_wp2_with fail
 have hs01 : w.heap.size < (w.alloc (.cells #[.slice none 0 0, .slice none 0 0] 83)).heap.size := by rw [World.size_alloc]; omega
 generalize w.alloc (.cells #[.slice none 0 0, .slice none 0 0] 83) = w1 at *
 (with_reducible refine (RUN.out).mono ?_)
 rintro e w2 ⟨oa, va, oc, vc, rfl, hoo, hor, k2⟩
 have kb := chg_alloc (fun _ => False) w2 (.cells #[.slice oa s.order.length oc, .slice va s.rules.length vc] 165)
 have K3 := Lib.hid (K1.out.trans (k2.trans kb))
 have O13 := Lib.hid (kb.obj (fun e => e) (k2.obj (fun e => e) O1.out))
 have OR3 := Lib.hid (obj_alloc_new w2 (.cells #[.slice oa s.order.length oc, .slice va s.rules.length vc] 165))
 have OO3 := Lib.hid (own_chg hoo kb (fun _ _ e => e))
 have RR3 := Lib.hid (own_chg hor kb (fun _ _ e => e))
 have SZ := Lib.hid (show ∀ r ∈ s.rules, r.1.size ≤ maxLen ∧ r.2.size ≤ maxLen from fun r hr => ⟨by have := (FEW.out.2 r hr).1; unfold maxLen; omega, (FEW.out.2 r hr).2⟩)
 have ASK := Lib.hid (show Asks (w2.alloc (.cells #[.slice oa s.order.length oc, .slice va s.rules.length vc] 165)) (.slice va s.rules.length vc) s.rules x from ⟨rulesAt_own RR3.out SZ.out, .inl ⟨FEW.out.1, fun r hr => (FEW.out.2 r hr).1⟩, HX.out⟩)
 have q0 := cell_of (o := 0) OR3.out rfl
 have q1 := cell_of (o := 1) OR3.out rfl
 have HS13 := Lib.hid (show w1.heap.size ≤ (w2.alloc (.cells #[.slice oa s.order.length oc, .slice va s.rules.length vc] 165)).heap.size from Nat.le_trans k2.size kb.size)
 clear k2 kb hoo hor RUN O1
 by_cases htp : tellPE s.rules x u b = 0
 rotate_left
 ·as_aux_lemma =>
  have ME : q = (tellPE s.rules x u b, ⟨[], []⟩) := by rw [← hq]; unfold makeE; rw [hacc]; exact if_neg htp
  have PA := Lib.hid (path_no ASK.out u HU.out htp)
  clear hacc ASK hq
  subst ME
  generalize tellPE s.rules x u b = k at *
  go_wp2_with fail
  generalize w2.alloc (.cells #[.slice oa s.order.length oc, .slice va s.rules.length vc] 165) = w3 at *
  (with_reducible refine (PA.out).mono ?_)
  rintro e w4 ⟨rfl, k4⟩
  have O1b := Lib.hid (k4.obj (fun e => e) O13.out)
  have KB := Lib.hid (K3.out.trans k4)
  have g0 : (k != 0) = true := by rw [bne_iff_ne]; exact htp
  have d0 := cell_of (o := 0) O1b.out rfl
  have e0 := frozen_of (o := 0) O1b.out
  have d1 := cell_of (o := 1) O1b.out rfl
  have e1 := frozen_of (o := 1) O1b.out
  clear PA k4 htp q0 q1
  go_wp2
  obtain ⟨W, hW⟩ : ∃ W, W = (w4.setCell ⟨w.heap.size, 0, none⟩ (.slice none 0 0)).setCell ⟨w.heap.size, 1, none⟩ (.slice none 0 0) := ⟨_, rfl⟩
  rw [← hW]
  obtain ⟨ob, kW⟩ := set2 O1b.out _ _ W hW
  clear hW
  have z0 : W.cell? ⟨w.heap.size, 0, none⟩ = some (.slice none 0 0) := cell_of ob rfl
  have z1 : W.cell? ⟨w.heap.size, 1, none⟩ = some (.slice none 0 0) := cell_of ob rfl
  refine bodyPost_ret (v := .tuple #[.agg #[.slice none 0 0, .slice none 0 0], .int .i64 k]) (by simp [results, Tryz.results96, go_sem, z0, z1]) rfl ?_
  exact ⟨KB.out.next kW (fun k hk e => by omega), _, _, rfl, items_nil _ _, own_none _ _ _ _⟩
 have ME1 := Lib.hid (fun (hc : CutOk R.length (certsOf P) (wholeM R (certsOf P) b s x u)) => show q = (0, cutE R.length (certsOf P) (wholeM R (certsOf P) b s x u)) from by rw [← hq]; unfold makeE; rw [hacc]; simp only; rw [if_pos htp, if_pos hc])
 have ME2 := Lib.hid (fun (hc : ¬ CutOk R.length (certsOf P) (wholeM R (certsOf P) b s x u)) => show q = (2, ⟨[], []⟩) from by rw [← hq]; unfold makeE; rw [hacc]; simp only; rw [if_pos htp, if_neg hc])
 have WF := Lib.hid (wholeM_fit INV.out (by rw [certsOf_length]; exact HA.out.few) hF x u)
 have PA := Lib.hid (path_row ASK.out u HU.out htp)
 have EW := Lib.hid (show wholeM R (certsOf P) b s x u = ⟨itemsM (certsOf P) R b s.order s.order.length, tellP s.rules x u b⟩ from rfl)
 generalize wholeM R (certsOf P) b s x u = wh at *
 have PS := Lib.hid (tellP_small s.rules x u b).1
 generalize tellP s.rules x u b = L at *
 obtain ⟨IT, hIT⟩ : ∃ IT : Nat → List BItem, IT = itemsM (certsOf P) R b s.order := ⟨_, rfl⟩
 have IT0 := Lib.hid (show IT 0 = [] from by rw [hIT]; rfl)
 have ITS := Lib.hid (fun (k i : Nat) c (hi : s.order[k]? = some i) (hc : (certsOf P)[i]? = some c) => show IT (k + 1) = IT k ++ [⟨(i : Int), pathsM (R ++ rulesOf (certsOf P) (s.order.take k)) b c⟩] from by
  rw [hIT, itemsM_succ, itemM_at hi hc])
 obtain ⟨AH, hAH⟩ : ∃ AH : Nat → Nat, AH = fun k => R.length + (rulesOf (certsOf P) (s.order.take k)).length := ⟨_, rfl⟩
 have AH0 := Lib.hid (show AH 0 = R.length from by rw [hAH]; simp [rulesOf])
 have AHS := Lib.hid (fun (k i : Nat) c (hi : s.order[k]? = some i) (hc : (certsOf P)[i]? = some c) => show AH (k + 1) = AH k + c.fr.length from by
  rw [hAH]
  simp only
  rw [List.take_add_one, hi, Option.toList_some, rulesOf_snoc hc, List.length_append]
  unfold crules
  rw [List.length_map]
  omega)
 have AHT := Lib.hid (fun k => show s.rules.take (AH k) = R ++ rulesOf (certsOf P) (s.order.take k) ∧ AH k ≤ s.rules.length from by rw [hAH]; exact rules_ahead INV.out k)
 have JUST := Lib.hid (fun (k i : Nat) c (hi : s.order[k]? = some i) (hc : (certsOf P)[i]? = some c) => back_tell (INV.out.just k i c hi hc))
 have ITL := Lib.hid (fun k => show (IT k).length = k from by rw [hIT]; unfold itemsM; simp)
 rw [← hIT] at EW
 clear hIT hAH hacc ASK htp hq
 have PCL := certsOf_length P
 have OLT := Lib.hid (fun i (hi : i ∈ s.order) => show i < P.length from by have := INV.out.lt i hi; omega)
 have CTO := Lib.hid (fun (i : Nat) q (hq : P[i]? = some q) => certsOf_get hq)
 have OLN := Lib.hid (show s.order.length ≤ P.length from by have := nodup_len INV.out.nd INV.out.lt; omega)
 have PFW := HA.out.few
 clear PCL INV
 have hs23 : (w2.alloc (.cells #[.slice oa s.order.length oc, .slice va s.rules.length vc] 165)).heap.size = w2.heap.size + 1 := World.size_alloc _ _
 have HS3 := Lib.hid hs23
 clear hs23
 go_wp2_with fail
 clear q0 q1
 generalize w2.alloc (.cells #[.slice oa s.order.length oc, .slice va s.rules.length vc] 165) = w3 at *
 generalize w2.heap.size = bR at *
 (with_reducible refine (PA.out).mono ?_)
 rintro e w4 ⟨vp, rfl, hst, k4⟩
 obtain ⟨sa, sc, rfl⟩ := own_shape hst
 have ka := chg_alloc (fun _ => False) w4 (.cells #[.slice none 0 0, .slice sa L.length sc] 83)
 have KP0 := Lib.hid (show KeptAt (w4.alloc (.cells #[.slice none 0 0, .slice sa L.length sc] 83)) (w4.alloc (.cells #[.slice none 0 0, .slice sa L.length sc] 83)) w4.heap.size (.slice none 0 0) (.slice sa L.length sc) [] (fun _ => False) from
  ⟨obj_alloc_new _ _, ⟨rfl, .inl ⟨rfl, rfl⟩⟩, fun x hx => (by cases hx), fun _ e => e.elim⟩)
 have M4 := Lib.hid (show MkAt w4 w.heap.size bR w1.heap.size oa va oc vc s (.slice sa L.length sc) w3.heap.size L from
  ⟨k4.obj (fun e => e) O13.out, k4.obj (fun e => e) OR3.out, own_chg OO3.out k4 (fun _ _ e => e), own_chg RR3.out k4 (fun _ _ e => e), hst⟩)
 have KM := Lib.hid (K3.out.trans (k4.trans ka))
 have KA := Lib.hid ka
 have MM := Lib.hid (fun W (kW : Chg (fun j => j = w4.heap.size) (w4.alloc (.cells #[.slice none 0 0, .slice sa L.length sc] 83)) W) =>
  show MkAt W w.heap.size bR w1.heap.size oa va oc vc s (.slice sa L.length sc) w3.heap.size L from M4.out.chg ((KA.out.mono (fun _ _ e => e.elim)).trans kW) (fun i e => by omega))
 have HZ := Lib.hid (show w.heap.size < w4.heap.size ∧ w1.heap.size ≤ w4.heap.size ∧ w3.heap.size ≤ w4.heap.size ∧ w4.heap.size < (w4.alloc (.cells #[.slice none 0 0, .slice sa L.length sc] 83)).heap.size from
  ⟨lt_of_obj M4.out.out, Nat.le_trans HS13.out k4.size, k4.size, by rw [World.size_alloc]; omega⟩)
 have q0 := cell_of (o := 0) (MM.out _ (Chg.refl _ _)).res rfl
 clear hst k4 ka M4 KA O13 OR3 OO3 RR3 PA K3 HS3 HS13
 go_wp2_with fail
 clear q0
 generalize w4.alloc (.cells #[.slice none 0 0, .slice sa L.length sc] 83) = wM at *
 generalize w4.heap.size = br at *
 go_loopw [16, 56] (fun av iv wr => ∃ (k : Nat) (ivv : Value) (xs : List (BItem × Value)) (Gx : Nat → Prop), k ≤ s.order.length ∧ av = .int .i64 (AH k : Int) ∧ iv = .int .i64 k ∧ Hid (KeptAt wM wr br ivv (.slice sa L.length sc) xs Gx ∧ Chg (fun j => j = br) wM wr ∧ xs.map Prod.fst = IT k)) (fun _ iv _ => s.order.length - (intOf iv).toNat)
 case atStart => exact ⟨0, _, [], _, by omega, by rw [AH0.out], rfl, Lib.hid ⟨KP0.out, Chg.refl _ _, by rw [IT0.out]; rfl⟩⟩
 case round =>
  obtain ⟨k, ivv, xs, Gx, hk, rfl, rfl, HI⟩ := hrel
  have KP := Lib.hid HI.out.1
  have KC := Lib.hid HI.out.2.1
  have XM := Lib.hid HI.out.2.2
  clear HI
  by_cases hlt : k < s.order.length
  ·as_aux_lemma =>
   obtain ⟨i, hi⟩ : ∃ i, s.order[k]? = some i := ⟨_, List.getElem?_eq_getElem hlt⟩
   have hil := OLT.out i (List.mem_of_getElem? hi)
   obtain ⟨pq, hpq⟩ : ∃ pq, P[i]? = some pq := ⟨_, List.getElem?_eq_getElem hil⟩
   have hci := CTO.out i pq hpq
   have JU := Lib.hid (JUST.out k i _ hi hci)
   have ITN := Lib.hid (ITS.out k i _ hi hci)
   have AHN := AHS.out k i _ hi hci
   obtain ⟨aht1, aht2⟩ := AHT.out k
   have AHL := (AHT.out (k + 1)).2
   have FL := FEW.out.1
   have HFI := hF _ (List.mem_of_getElem? hci)
   rw [← aht1] at JU ITN
   have M0 := Lib.hid (MM.out wr KC.out)
   obtain ⟨_, _, e1, _, hoc⟩ := own_ints M0.out.ord
   cases e1
   obtain ⟨go, rfl, _, oc0⟩ := hoc k i hi
   have KW := Lib.hid (KM.out.next KC.out (fun j hj e => by have := HZ.out.1; omega))
   obtain ⟨_, _, e1, _, hcv⟩ := HA.out.certs
   cases e1
   obtain ⟨cg, co, ca, ccp, rfl, hcg, ecv, cw0, cw1, cw2, cw3, cw4, cw5, cw6, hca⟩ := hcv i pq hpq
   have CA := Lib.hid hca
   obtain ⟨⟨ck, sg, sp, fr, cf, ct, cn⟩, cv⟩ := pq
   simp only at cw1 cw3 CA JU ITN AHN HFI
   have hk8 := Nat.lt_of_lt_of_le hlt OLN.out
   have LOW := Lib.hid HA.out.low
   have ky := chg_alloc (fun _ => False) wr (.cells #[.int .i64 (i : Int), .slice none 0 0] 98)
   have PI0 := Lib.hid (show PathIn wr (wr.alloc (.cells #[.int .i64 (i : Int), .slice none 0 0] 98)) wr.heap.size (i : Int) (.slice none 0 0) [] (fun _ => False) from
    ⟨obj_alloc_new _ _, ⟨rfl, .inl ⟨rfl, rfl⟩⟩, fun z hz => (by cases hz), fun _ e => e.elim, ky, Nat.le_refl _⟩)
   have c1 := cell_chg (KW.out.trans ky) (fun e => e) cw1
   have ks := chg_alloc (fun _ => False) (wr.alloc (.cells #[.int .i64 (i : Int), .slice none 0 0] 98)) (.cells #[.int .u16 (sg : Int)] 62)
   have WO0 := (wof1_any ((wr.alloc (.cells #[.int .i64 (i : Int), .slice none 0 0] 98)).alloc (.cells #[.int .u16 (sg : Int)] 62)) _ 0 1 sg CA.out.sg (cell_of (obj_alloc_new (wr.alloc (.cells #[.int .i64 (i : Int), .slice none 0 0] 98)) (.cells #[.int .u16 (sg : Int)] 62)) rfl))
   rw [World.size_alloc] at WO0
   have WO := Lib.hid WO0
   have PIS := Lib.hid (PI0.out.chg ks)
   have b0 := cell_of (o := 0) M0.out.res rfl
   have hoc2 : s.order.length ≤ oc := own_cap M0.out.ord
   clear hcv hca ecv cw0 cw2 cw4 cw5 cw6 ky ks hoc hci hpq hi PI0 aht1 WO0 JUST ITS AHS AHT KP0
   go_upto_region 12 with fail
   clear oc0 b0
   go_wp2_with fail
   clear c1
   generalize (wr.alloc (.cells #[.int .i64 (i : Int), .slice none 0 0] 98)).alloc (.cells #[.int .u16 (sg : Int)] 62) = wx at *
   (with_reducible refine (WO.out).mono ?_)
   rintro e wy ⟨rfl, k7⟩
   have PIY := Lib.hid (PIS.out.chg k7)
   have c3 := cell_chg (KW.out.trans PIY.out.ch) (fun e => e) cw3
   clear WO k7 PIS
   go_wp2_with fail
   clear c3
   obtain ⟨wo, hwo⟩ : ∃ wo, wo = wr := ⟨_, rfl⟩
   subst hwo
   obtain ⟨PQ, hPQ⟩ : ∃ PQ : List BSteps, PQ = pathsM (s.rules.take (AH k)) b ⟨ck, sg, sp, fr, cf, ct, cn⟩ := ⟨_, rfl⟩
   have PQL := Lib.hid (show PQ.length = fr.length from by rw [hPQ]; unfold pathsM; rw [List.length_map])
   have PQT := Lib.hid (fun (j : Nat) f (hf : fr[j]? = some f) => show PQ.take (j + 1) = PQ.take j ++ [tellP (s.rules.take (AH k)) f (atomW sg) b] from by
    rw [hPQ]
    unfold pathsM
    rw [List.take_add_one, List.getElem?_map, hf]; rfl)
   have JUF := Lib.hid (fun (j : Nat) f (hf : fr[j]? = some f) => JU.out f (List.mem_of_getElem? hf))
   have ITP := Lib.hid (show IT (k + 1) = IT k ++ [⟨(i : Int), PQ⟩] from by rw [hPQ]; exact ITN.out)
   clear hPQ JU ITN
   obtain ⟨_, _, e1, hfl0, hfc⟩ := CA.out.set.at_
   cases e1
   have HFC := Lib.hid hfc
   clear hfc
   go_loopw [75] (fun jv wr => ∃ (j : Nat) (pv : Value) (zs : List (BSteps × Value)) (Gz : Nat → Prop), j ≤ fr.length ∧ jv = .int .i64 j ∧ Hid (PathIn wo wr wo.heap.size (i : Int) pv zs Gz ∧ zs.map Prod.fst = PQ.take j)) (fun jv _ => fr.length - (intOf jv).toNat)
   case atStart => exact ⟨0, _, [], _, by omega, rfl, Lib.hid ⟨PIY.out, rfl⟩⟩
   case round =>
    obtain ⟨j, pv, zs, Gz, hj, rfl, HJ⟩ := hrel
    obtain ⟨za, zc, ezv⟩ := own_shape HJ.out.1.row
    subst ezv
    have PI := Lib.hid HJ.out.1
    have ZM := Lib.hid HJ.out.2
    have hzl : zs.length ≤ 1000 := by
     have := congrArg List.length ZM.out
     rw [List.length_map, List.length_take] at this
     omega
    have CK := Lib.hid (KC.out.trans (PI.out.ch.mono (fun _ _ e => e.elim)))
    clear HJ PIY
    by_cases hjl : j < fr.length
    ·as_aux_lemma =>
     obtain ⟨f, hf⟩ : ∃ f, fr[j]? = some f := ⟨_, List.getElem?_eq_getElem hjl⟩
     obtain ⟨fb, fo, rfl, _, f0', hfs⟩ := HFC.out j f hf
     have KWJ := Lib.hid (KW.out.trans PI.out.ch)
     have f0 := cell_chg KWJ.out (fun e => e) f0'
     have PQN := Lib.hid (PQT.out j f hf)
     have M1 := Lib.hid (MM.out wr CK.out)
     have b1 := cell_of (o := 1) M1.out.res rfl
     have hvc : s.rules.length ≤ vc := own_cap M1.out.rul
     have SZA := Lib.hid (show ∀ r ∈ s.rules, r.1.size ≤ maxLen ∧ r.2.size ≤ maxLen from SZ.out)
     have ASKJ := Lib.hid (show Asks wr (.slice va (AH k) vc) (s.rules.take (AH k)) f from ⟨rulesAt_take (rulesAt_own M1.out.rul SZA.out) aht2, .inl ⟨by rw [List.length_take]; omega, fun r hr => (FEW.out.2 r (List.mem_of_mem_take hr)).1⟩, hfs⟩)
     have PA := Lib.hid (path_row ASKJ.out (atomW sg) (by rw [atomW_size13]; unfold maxLen; omega) (JUF.out j f hf))
     have PN := Lib.hid (tellP_small (s.rules.take (AH k)) f (atomW sg) b).1
     generalize tellP (s.rules.take (AH k)) f (atomW sg) b = l at *
     have x1 : AH k ≤ vc := by omega
     have x2 : (AH k : Int) ≤ (vc : Int) := by omega
     have hzz : wo.heap.size ≤ wr.heap.size := PI.out.ch.size
     clear f0' hf hfs ASKJ SZA PQT JUF HFC
     go_wp2_with fail
     clear f0 b1
     (with_reducible refine (PA.out).mono ?_)
     rintro e wa ⟨vl, rfl, hoa, k8⟩
     obtain ⟨aa, ac, rfl⟩ := own_shape hoa
     have PA2 := Lib.hid (PI.out.chg k8)
     have HOA := Lib.hid (own_base hoa hzz)
     have y1 := cell_of (o := 1) PA2.out.box rfl
     have kb := chg_alloc (fun _ => False) wa (.cells #[.slice aa l.length ac] 81)
     have PB := Lib.hid (PA2.out.chg kb)
     have HOB := Lib.hid (own_chg HOA.out kb (fun _ _ e => e))
     have hza : wo.heap.size ≤ wa.heap.size := PA2.out.ch.size
     clear PA k8 hoa kb PI HOA
     go_wp2_with (at_builtin; refine wpList_push rfl (.tmp 95) (.tmp 97) 96 rfl 81 1 24 Tryz.underlying96 Tryz.elemSteps wo.heap.size (.slice za zs.length zc) zs.length (zs.map Prod.snd) rfl PB.out.row wa.heap.size [.slice aa l.length ac] 81 (0, 0) rfl (obj_alloc_new _ _) rfl ?p1 ?p2 ?p3 ?p4 ?pnx)
     case p1 => intro u hu; simp at hu; subst hu; rfl
     case p2 => omega
     case p3 => unfold maxLen; omega
     case p4 => first | omega | (rw [World.size_alloc]; omega)
     intro v9 w9 o9 g9
     obtain ⟨a9, c9, rfl⟩ := own_shape o9
     have PP := PB.out.push (l := l) (v := .slice aa l.length ac) HOB.out g9 o9
     have bx9 := PP.2
     have PNX := Lib.hid PP.1
     have y4 := cell_of (o := 1) bx9 rfl
     have f4 := frozen_of (o := 1) bx9
     have ZN := Lib.hid (show (zs ++ [(l, Value.slice aa l.length ac)]).map Prod.fst = PQ.take (j + 1) from by rw [PQN.out, List.map_append, ZM.out]; rfl)
     clear PP bx9 o9 g9 PB HOB y1
     go_wp2
     go_roundw
     case rel => exact ⟨j + 1, _, _, _, by omega, by go_num, Lib.hid ⟨PNX.out, ZN.out⟩⟩
     case measure => simp [intOf]; omega
    ·as_aux_lemma =>
     obtain rfl : j = fr.length := by omega
     obtain ⟨pd1, pd2⟩ := PI.out.done
     rw [ZM.out, ← PQL.out, List.take_length] at pd1
     have KPW := Lib.hid (KP.out.chg PI.out.ch)
     obtain ⟨ia, ic, eiv⟩ := own_shape KPW.out.row
     subst eiv
     have hxl : xs.length ≤ 1000 := by
      have := congrArg List.length XM.out
      rw [List.length_map, ITL.out] at this
      omega
     have ka := chg_alloc (fun _ => False) wr (.cells #[.int .i64 (i : Int), .slice za zs.length zc] 98)
     have HPP := Lib.hid (And.intro (pd1.chg ka (fun _ _ e => e)) (fun k hk => show wM.heap.size ≤ k ∧ ∃ cs t, (wr.alloc (.cells #[.int .i64 (i : Int), .slice za zs.length zc] 98)).heap[k]? = some (.cells cs t (0, 0)) ∧ (t = 81 ∨ t = 153) from by
      obtain ⟨h1, cs, t, q, ht⟩ := pd2 k hk
      exact ⟨Nat.le_trans KC.out.size h1, cs, t, ka.obj (fun e => e) q, ht⟩))
     have KPA := Lib.hid (KPW.out.chg ka)
     have KCA := Lib.hid (CK.out.trans (ka.mono (fun _ _ e => e.elim)))
     have b0 := cell_of (o := 0) KPW.out.box rfl
     have y0 := cell_of (o := 0) PI.out.box rfl
     have y1 := cell_of (o := 1) PI.out.box rfl
     have hwm : wM.heap.size ≤ wr.heap.size := CK.out.size
     clear pd1 pd2 ka KPW JUF PQT HFC
     go_wp2_with (at_builtin; refine wpList_push rfl (.tmp 102) (.tmp 104) 80 rfl 98 2 32 Tryz.underlying80 Tryz.elemItem wM.heap.size (.slice ia xs.length ic) xs.length (icells xs) rfl KPA.out.row _ [.int .i64 (i : Int), .slice za zs.length zc] 98 (0, 0) rfl (obj_alloc_new _ _) rfl ?u1 ?u2 ?u3 ?u4 ?unx)
     case u1 => first | exact ⟨rfl, rfl⟩ | (intro u hu; simp at hu; rcases hu with rfl | rfl <;> rfl)
     case u2 => omega
     case u3 => unfold maxLen; omega
     case u4 => first | omega | (rw [World.size_alloc]; omega)
     intro v5 w5 o5 g5
     obtain ⟨a5, c5, rfl⟩ := own_shape o5
     have KPP := KPA.out.push (y := ⟨(i : Int), PQ⟩) HPP.out.1 HPP.out.2 g5 o5
     have KPN := Lib.hid KPP.1
     have bx5 := KPP.2.1
     have b5 := cell_of (o := 0) bx5 rfl
     have f5 := frozen_of (o := 0) bx5
     have KCN := Lib.hid (KCA.out.next KPP.2.2 (fun i hi e => by
      rcases e with e | e
      ·exact e
      ·have := (KPA.out.row.lt i e).1; omega))
     have c3 := cell_chg (KM.out.next KCN.out (fun j hj e => by have := HZ.out.1; omega)) (fun e => e) cw3
     have XN := Lib.hid (show (xs ++ [((⟨(i : Int), PQ⟩ : BItem), Value.slice za zs.length zc)]).map Prod.fst = IT (k + 1) from by rw [ITP.out, List.map_append, XM.out]; rfl)
     have x3 : IntKind.i64.wrap ((AH k : Int) + (fr.length : Int)) = (AH (k + 1) : Int) := by rw [IntKind.wrap_i64] <;> omega
     have hil2 : (i : Int) < (P.length : Int) := by omega
     clear KPP bx5 o5 g5 HPP KPA KCA b0 y0 y1 AHN
     go_wp2
     go_roundw
     case rel => exact ⟨k + 1, _, _, _, by omega, rfl, by go_num, Lib.hid ⟨KPN.out, KCN.out, XN.out⟩⟩
     case measure => simp [intOf]; omega
  ·as_aux_lemma =>
   obtain rfl : k = s.order.length := by omega
   have M0 := Lib.hid (MM.out wr KC.out)
   have KW := Lib.hid (KM.out.next KC.out (fun j hj e => by have := HZ.out.1; omega))
   obtain ⟨ia, ic, eiv⟩ := own_shape KP.out.row
   subst eiv
   have b0 := cell_of (o := 0) KP.out.box rfl
   have b1 := cell_of (o := 1) KP.out.box rfl
   have WI : wh.items.length = xs.length := by rw [EW.out, ← XM.out, List.length_map]
   have HP := Lib.hid (show ProofAt wr (.slice ia xs.length ic) (.slice sa L.length sc) (· < wr.heap.size) wh from by
    have it := items_own KP.out.row KP.out.ent
    rw [XM.out] at it
    rw [EW.out]
    refine ⟨it.up (fun k hk => ?_), (stepsN_own M0.out.stp).up (fun k hk => (M0.out.stp.lt k hk).2)⟩
    rcases hk with hk | hk
    ·obtain ⟨_, cs, t, q, _⟩ := KP.out.typ k hk
     exact lt_of_obj q
    ·exact (KP.out.row.lt k hk).2)
   have CU := cut_any wr (R.length : Int) (.slice la P.length lcap) (.slice ia xs.length ic) (.slice sa L.length sc) P wh G (· < wr.heap.size) (HA.out.certs.chg KW.out (fun _ _ e => e)) HP.out (fun _ e => e) WF.out.1 WF.out.2.1 hF WF.out.2.2.1 WF.out.2.2.2
   unfold CutRes at CU
   have CU := Lib.hid CU
   have O0 := Lib.hid M0.out.out
   go_wp2_with fail
   clear b0 b1
   (with_reducible refine (CU.out).mono ?_)
   rintro e wc ⟨kc, hres⟩
   have OC := Lib.hid (kc.obj (fun e => e) O0.out)
   have hbl : w.heap.size < wr.heap.size := lt_of_obj O0.out
   have d0 := cell_of (o := 0) OC.out rfl
   have e0 := frozen_of (o := 0) OC.out
   have d1 := cell_of (o := 1) OC.out rfl
   have e1 := frozen_of (o := 1) OC.out
   have KWC := Lib.hid (KW.out.trans kc)
   have hsc := kc.size
   rcases hres with ⟨hco, iv, sv, rfl, hit, hrow⟩ | ⟨hno, rfl⟩
   ·have E := ME1.out hco
    subst E
    obtain ⟨i1, i2, rfl⟩ := hit.shape
    obtain ⟨j1, j2, rfl⟩ := own_shape hrow
    generalize (cutE R.length (certsOf P) wh).items.length = n1 at *
    generalize hn2 : (cutE R.length (certsOf P) wh).steps.length = n2 at *
    have HN := Lib.hid hn2
    clear hn2
    have HIT := Lib.hid hit
    have HROW := Lib.hid hrow
    clear hit hrow hco CU O0 kc ME1 ME2
    go_wp2
    obtain ⟨W, hW⟩ : ∃ W, W = (wc.setCell ⟨w.heap.size, 0, none⟩ (.slice i1 n1 i2)).setCell ⟨w.heap.size, 1, none⟩ (.slice j1 n2 j2) := ⟨_, rfl⟩
    rw [← hW]
    obtain ⟨ob, kW⟩ := set2 OC.out _ _ W hW
    clear hW
    have z0 : W.cell? ⟨w.heap.size, 0, none⟩ = some (.slice i1 n1 i2) := cell_of ob rfl
    have z1 : W.cell? ⟨w.heap.size, 1, none⟩ = some (.slice j1 n2 j2) := cell_of ob rfl
    refine bodyPost_ret (v := .tuple #[.agg #[.slice i1 n1 i2, .slice j1 n2 j2], .int .i64 0]) (by simp [results, Tryz.results96, go_sem, z0, z1]) rfl ?_
    have hsW := kW.size
    have hr2 := own_chg HROW.out kW (fun k hk e => by have := (HROW.out.lt k hk).1; omega)
    exact ⟨KWC.out.next kW (fun k hk e => by omega), _, _, rfl, (HIT.out.chg kW (fun k hk e => by omega)).up (fun k hk => ⟨by omega, by omega⟩), by simp only; rw [HN.out]; exact own_base hr2 (Nat.le_of_lt hbl)⟩
   ·have E := ME2.out hno
    subst E
    clear hno CU O0 kc ME1 ME2
    go_wp2
    obtain ⟨W, hW⟩ : ∃ W, W = (wc.setCell ⟨w.heap.size, 0, none⟩ (.slice none 0 0)).setCell ⟨w.heap.size, 1, none⟩ (.slice none 0 0) := ⟨_, rfl⟩
    rw [← hW]
    obtain ⟨ob, kW⟩ := set2 OC.out _ _ W hW
    clear hW
    have z0 : W.cell? ⟨w.heap.size, 0, none⟩ = some (.slice none 0 0) := cell_of ob rfl
    have z1 : W.cell? ⟨w.heap.size, 1, none⟩ = some (.slice none 0 0) := cell_of ob rfl
    refine bodyPost_ret (v := .tuple #[.agg #[.slice none 0 0, .slice none 0 0], .int .i64 2]) (by simp [results, Tryz.results96, go_sem, z0, z1]) rfl ?_
    exact ⟨KWC.out.next kW (fun k hk e => by omega), _, _, rfl, items_nil _ _, own_none _ _ _ _⟩
end Go.Proofs.YthdfplafihmejaaGreat
