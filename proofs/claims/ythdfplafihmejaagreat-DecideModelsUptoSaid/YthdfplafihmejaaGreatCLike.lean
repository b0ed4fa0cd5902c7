/-
  Package cert: delegate, like.
  A variable of many cells, written whole; a set of one word.
-/
import Derived.Test.YthdfplafihmejaaGreatCSort
import Derived.Test.YthdfplafihmejaaGreatSAt
import Derived.Test.YthdfplafihmejaaGreatRHelp
namespace Go.Proofs.YthdfplafihmejaaGreat
open Go.RowKit Go.Maps

/-- A certificate's parts, in memory. -/
structure CertAt (w : World) (sv : Value) (G : Nat → Prop) (c : BCert) : Prop where
 set : SetAt w sv G c.fr
 sp : c.sp.size ≤ maxLen
 sg : c.sg < 65536
theorem CertAt.chg {S : Nat → Prop} {w w' : World} {sv : Value} {G : Nat → Prop} {c : BCert} (h : CertAt w sv G c) (hc : Chg S w w') (hs : ∀ k, G k → ¬ S k) : CertAt w' sv G c := ⟨h.set.chg hc hs, h.sp, h.sg⟩
def certV (c : BCert) (sv : Value) : Value := .agg #[.int .i64 c.kind, .int .u16 (c.sg : Int), .string c.sp, sv, .int .i64 c.f, .int .i64 c.t, .int .i64 c.n]
theorem ints1 (w : World) (a : Nat) : IntsAt (w.alloc (.cells #[.int .i64 ((a : Nat) : Int)] 3)) (.slice (some ⟨w.heap.size, 0, none⟩) 1 1) (fun k => k = w.heap.size) (natI [a]) := intsAt_lit w [((a : Nat) : Int)] _ (by simp)
theorem ints2 (w : World) (a b : Nat) : IntsAt (w.alloc (.cells #[.int .i64 ((a : Nat) : Int), .int .i64 ((b : Nat) : Int)] 3)) (.slice (some ⟨w.heap.size, 0, none⟩) 2 2) (fun k => k = w.heap.size) (natI [a, b]) := intsAt_lit w [((a : Nat) : Int), ((b : Nat) : Int)] _ (by simp)
theorem told_data (sp : ByteArray) : (toldW sp).data.toList = swapAt sp.data.toList 0 1 [0, 1] := by unfold toldW; simp
theorem atomW_one : (atomW 1).data.toList = [0, 1] := by decide +kernel
theorem told_may {sp : ByteArray} (h : mayB sp.data.toList = true) : mayB (toldW sp).data.toList = true := by
 rw [told_data]
 obtain ⟨h1, h2, h3, h4⟩ := (mayB_iff _).1 h
 have hl : sp.data.toList.length = 2 * alen sp.data.toList := by unfold alen; omega
 have e : swapAt sp.data.toList 0 1 [0, 1] = [0, 1] ++ sp.data.toList.drop 2 := by unfold swapAt; simp
 have el : (swapAt sp.data.toList 0 1 [0, 1]).length = sp.data.toList.length := by
  rw [e, List.length_append, List.length_drop]
  simp only [List.length_cons, List.length_nil]
  omega
 have ea : alen (swapAt sp.data.toList 0 1 [0, 1]) = alen sp.data.toList := by unfold alen; rw [el]
 refine (mayB_iff _).2 ⟨by rw [el]; exact h1, by rw [ea]; exact h2, by rw [ea]; exact h3, fun i hi => ?_⟩
 rw [ea] at hi
 cases i with
 | zero =>
  rw [e]
  unfold atomAt
  simp
 | succ i =>
  have := h4 (i + 1) hi
  unfold atomAt at this ⊢
  rw [e]
  have g : ∀ j, 2 ≤ j → ([0, 1] ++ sp.data.toList.drop 2 : List UInt8).getD j 0 = sp.data.toList.getD j 0 := fun j hj => by
   rw [List.getD_eq_getElem?_getD, List.getD_eq_getElem?_getD, List.getElem?_append_right (by simpa using hj)]
   simp
   congr 2
   omega
  rw [g _ (by omega), g _ (by omega)]
  exact this
theorem told_size {sp : ByteArray} (h : mayB sp.data.toList = true) : (toldW sp).size ≤ 16 := (may_size (told_may h)).1
theorem delB_same {c : BCert} {m : List ByteArray} (hl : 2 ≤ alen c.sp.data.toList) (hm : ∀ x, x ∈ m ↔ x = c.sp ∨ x = toldW c.sp) : (c.fr.all (hasB m) && m.all (hasB c.fr)) = delB c := by
 unfold delB
 rw [decide_eq_true hl, Bool.true_and]
 have e1 : c.fr.all (hasB m) = decide (∀ x ∈ c.fr, x = c.sp ∨ x = toldW c.sp) := by
  rw [Bool.eq_iff_iff, List.all_eq_true, decide_eq_true_iff]
  exact ⟨fun h x hx => (hm x).1 (of_decide_eq_true (h x hx)), fun h x hx => decide_eq_true ((hm x).2 (h x hx))⟩
 have e2 : m.all (hasB c.fr) = (decide (c.sp ∈ c.fr) && decide (toldW c.sp ∈ c.fr)) := by
  rw [Bool.eq_iff_iff, List.all_eq_true, Bool.and_eq_true, decide_eq_true_iff, decide_eq_true_iff]
  constructor
  ·exact fun h => ⟨of_decide_eq_true (h _ ((hm _).2 (.inl rfl))), of_decide_eq_true (h _ ((hm _).2 (.inr rfl)))⟩
  ·rintro ⟨h1, h2⟩ x hx
   rcases (hm x).1 hx with rfl | rfl
   ·exact decide_eq_true h1
   ·exact decide_eq_true h2
 rw [e1, e2]
set_option maxHeartbeats 2000000 in
set_option maxRecDepth 100000 in
theorem delegate_any (w : World) (c : BCert) (sa : Option Addr) (sc : Nat) (G : Nat → Prop) (h : CertAt w (.slice sa c.fr.length sc) G c) (hm : mayB c.sp.data.toList = true) (hfr : c.fr.length ≤ 16) :
  Calls Tryz.prog 112 #[certV c (.slice sa c.fr.length sc)] w fun e w' => e = .returned (.bool (delB c)) ∧ Chg (fun _ => False) w w' := by
 have k0 := chg_alloc (fun _ => False) w (.cells #[.int .i64 c.kind, .int .u16 (c.sg : Int), .string c.sp, .slice sa c.fr.length sc, .int .i64 c.f, .int .i64 c.t, .int .i64 c.n] 64)
 have OB := Lib.hid (obj_alloc_new w (.cells #[.int .i64 c.kind, .int .u16 (c.sg : Int), .string c.sp, .slice sa c.fr.length sc, .int .i64 c.f, .int .i64 c.t, .int .i64 c.n] 64))
 have K0 := Lib.hid k0
 have HS := Lib.hid (h.set.chg k0 (fun _ _ e => e))
 have hsp := (may_size hm).1
 have HM := Lib.hid hm
 obtain ⟨he, h1, h8, _⟩ := (mayB_iff _).1 hm
 have hev : c.sp.size % 2 = 0 := by rw [size_list] at he; exact he
 have WL := Lib.hid (fun w => wlen_any w c.sp (by unfold maxLen; omega))
 have DS := Lib.hid (fun m => delB_same (c := c) (m := m))
 have DF := Lib.hid (show ¬ 2 ≤ alen c.sp.data.toList → delB c = false from fun q => by unfold delB; rw [decide_eq_false q]; rfl)
 generalize delB c = res at *
 obtain ⟨kind, sg, sp, fr, f, t, n⟩ := c
 unfold certV
 simp only at OB K0 HS hsp HM hev WL DS DF h1 h8 hfr ⊢
 clear h hm he k0
 have p2 : (w.alloc (.cells #[.int .i64 kind, .int .u16 (sg : Int), .string sp, .slice sa fr.length sc, .int .i64 f, .int .i64 t, .int .i64 n] 64)).cell? ⟨w.heap.size, 2, none⟩ = some (.string sp) := cell_of OB.out rfl
 have hws : w.heap.size ≤ w.heap.size := Nat.le_refl _
 go_enter Tryz.func112, Tryz.ntmps112
 go_wp2_with fail
 generalize hw0 : w.alloc (.cells #[.int .i64 kind, .int .u16 (sg : Int), .string sp, .slice sa fr.length sc, .int .i64 f, .int .i64 t, .int .i64 n] 64) = w0 at *
 clear hw0
 have W0 := Lib.hid (WL.out w0)
 by_cases h2 : 2 ≤ alen sp.data.toList
 ·have g1 : decide ((alen sp.data.toList : Int) < 2) = false := decide_eq_false (by omega)
  (with_reducible refine (W0.out).mono ?_)
  rintro e w1 ⟨rfl, rfl⟩
  go_wp2_with fail
  refine wp_region_plan (N := 36) [.rd [0, 1], .ef 2, .ef 3, .ef 4, .rd [5, 6, 7, 8, 9]] (fun W => W.cell? ⟨w.heap.size, 2, none⟩ = some (.string sp)) (by kernel_rfl) (by kernel_rfl) (by kernel_rfl) (by kernel_rfl) (Nat.le_of_ble_eq_true rfl) p2 ?_
  refine plan_rd (A := ?A1) ?h1 ?h2
  case h1 =>
   rintro w' z0 K hK
   simp only [opsAt, List.filterMap_cons, List.filterMap_nil, List.getElem?_toArray, List.getElem?_cons_succ, List.getElem?_cons_zero]
   refine WS.out ?_
   repeat (refine ws_step (fun K hK => ?_); go_simp; refine hK _ ?_; clear hK K)
   refine ws_nil ?_
   exact hK
  have D := Lib.hid (chg_drew (fun _ => False) w0)
  have OD := Lib.hid (D.out.obj (fun e => e) OB.out)
  have HD := Lib.hid (HS.out.chg D.out (fun _ _ e => e))
  have KD := Lib.hid (K0.out.trans D.out)
  clear D p2 OB HS K0 W0
  generalize w0.drew = wd at *
  refine plan_ef rfl ?_
  go_wp2_with fail
  have ka := chg_alloc (fun _ => False) wd (.cells #[.int .u16 1] 62)
  have OF := wof1_any (wd.alloc (.cells #[.int .u16 1] 62)) wd.heap.size 0 1 1 (by omega) (cell_of (obj_alloc_new _ _) rfl)
  refine ⟨cell_of (ka.obj (fun e => e) OD.out) rfl, ?_⟩
  have OE := Lib.hid (ka.obj (fun e => e) OD.out)
  have HE := Lib.hid (HD.out.chg ka (fun _ _ e => e))
  have KE := Lib.hid (KD.out.trans ka)
  have OF := Lib.hid OF
  clear ka OD HD KD
  refine plan_ef rfl ?_
  go_wp2_with fail
  (with_reducible refine (OF.out).mono ?_)
  rintro e w3 ⟨rfl, k3⟩
  have O3 := Lib.hid (k3.obj (fun e => e) OE.out)
  have H3 := Lib.hid (HE.out.chg k3 (fun _ _ e => e))
  have K3 := Lib.hid (KE.out.trans k3)
  have hat : (atomW 1).data.toList = [0, 1] := atomW_one
  have hasz : (atomW 1).size = 2 := by decide +kernel
  have SW := swap_ok w3 sp (atomW 1) 0 1 (by omega) (by omega) hev (by rw [hasz]) (by omega) (by rw [hat]; unfold alen at h8 ⊢; simp; omega)
  rw [hat] at SW
  change Calls Tryz.prog 130 #[.string sp, .int .i64 0, .int .i64 1, .string (atomW 1)] w3 (fun e w' => e = .returned (.tuple #[.string (toldW sp), .int .i64 0]) ∧ Drawn w3 w') at SW
  have SW := Lib.hid SW
  clear k3 OE HE KE OF hat hasz
  go_wp2_with fail
  refine ⟨cell_of O3.out rfl, ?_⟩
  refine plan_ef rfl ?_
  go_wp2_with fail
  (with_reducible refine (SW.out).mono ?_)
  rintro e w4 ⟨rfl, d4⟩
  have k4 : Chg (fun _ => False) w3 w4 := d4.chg
  have O4 := Lib.hid (k4.obj (fun e => e) O3.out)
  have H4 := Lib.hid (H3.out.chg k4 (fun _ _ e => e))
  have K4 := Lib.hid (K3.out.trans k4)
  clear k4 d4 O3 H3 K3 SW
  go_wp2_with fail
  refine ⟨cell_of O4.out rfl, ?_⟩
  refine plan_rd (A := ?A2) ?h3 ?h4
  case h3 =>
   rintro w' z0 K hK
   simp only [opsAt, List.filterMap_cons, List.filterMap_nil, List.getElem?_toArray, List.getElem?_cons_succ, List.getElem?_cons_zero]
   refine WS.out ?_
   repeat (refine ws_step (fun K hK => ?_); go_simp; refine hK _ ?_; clear hK K)
   refine ws_nil ?_
   exact hK
  refine plan_nil ?_
  have q2 : w4.cell? ⟨w.heap.size, 2, none⟩ = some (.string sp) := cell_of O4.out rfl
  have htm := told_may HM.out
  have hts := (may_size htm).1
  have kb := chg_alloc (fun _ => False) w4 (.cells #[.string sp, .string (toldW sp)] 57)
  have SO := Lib.hid (setOf_any (w4.alloc (.cells #[.string sp, .string (toldW sp)] 57)) w4.heap.size 0 2 2 (fun k => k = w4.heap.size) [sp, toldW sp] ⟨_, 2, rfl, by unfold maxLen; simp, fun j x hj => ⟨w4.heap.size, 0, rfl, rfl, by
   rw [Nat.zero_add]
   refine cell_of (obj_alloc_new _ _) ?_
   rcases j with _ | _ | j
   ·simp at hj; subst hj; rfl
   ·simp at hj; subst hj; rfl
   ·simp at hj, by
   have hx := List.mem_of_getElem? hj
   unfold maxLen
   simp at hx
   rcases hx with rfl | rfl <;> omega⟩⟩ (by simp) (by simp) (fun x hx => by
    simp at hx
    rcases hx with rfl | rfl
    ·exact HM.out
    ·exact htm))
  have O5 := Lib.hid (kb.obj (fun e => e) O4.out)
  have H5 := Lib.hid (H4.out.chg kb (fun _ _ e => e))
  have K5 := Lib.hid (K4.out.trans kb)
  clear kb O4 H4 K4 htm hts
  generalize toldW sp = told at *
  go_wp2_with fail
  (with_reducible refine (SO.out).mono ?_)
  rintro e w6 ⟨va, m, hpw, hmem, k6, hres⟩
  have hml : m.length ≤ 2 := nodup_le (hpw.imp (fun {a b} q e => by subst e; rw [show lessW a a = false from lessB_irrefl _] at q; cases q)) (fun x hx => (hmem x).1 hx)
  have hm1 : 1 ≤ m.length := List.length_pos_of_mem ((hmem sp).2 (by simp))
  rcases hres with ⟨_, _, rfl, hva⟩ | ⟨hn, _⟩
  ·have O6 := Lib.hid (k6.obj (fun e => e) O5.out)
   have H6 := Lib.hid (H5.out.chg k6 (fun _ _ e => e))
   have K6 := Lib.hid (K5.out.trans k6)
   have RES := Lib.hid (DS.out m h2 (fun x => by rw [hmem]; simp))
   have SS := sameS_any w6 _ va fr m _ _ H6.out.at_ hva (by omega) (by omega)
   rw [RES.out] at SS
   have SS := Lib.hid SS
   obtain ⟨va1, va2, rfl, _, _⟩ := hva
   have q3 : w6.cell? ⟨w.heap.size, 3, none⟩ = some (.slice sa fr.length sc) := cell_of O6.out rfl
   clear k6 O5 H5 K5 hpw hmem SO q2
   go_wp2_with fail
   (with_reducible refine (SS.out).mono ?_)
   rintro e w7 ⟨rfl, k7⟩
   go_wp2
   go_ret
   exact ⟨rfl, K6.out.trans k7⟩
  ·exact (hn ⟨hm1, by omega⟩).elim
 ·have g1 : decide ((alen sp.data.toList : Int) < 2) = true := decide_eq_true (by omega)
  have R := Lib.hid (DF.out h2)
  (with_reducible refine (W0.out).mono ?_)
  rintro e w1 ⟨rfl, rfl⟩
  clear h2
  go_wp2
  go_ret
  exact ⟨by rw [R.out]; rfl, K0.out⟩
end Go.Proofs.YthdfplafihmejaaGreat

namespace Go.Proofs.YthdfplafihmejaaGreat
open Go.RowKit Go.Maps

theorem setAt_l1 (w : World) (a : ByteArray) (hs : a.size ≤ 100) : SetAt (w.alloc (.cells #[.string a] 57)) (.slice (some ⟨w.heap.size, 0, none⟩) 1 1) (fun k => k = w.heap.size) [a] :=
 ⟨⟨_, 1, rfl, by simp [maxLen], fun j x hj => ⟨_, 0, rfl, rfl, by
   have hl := (List.getElem?_eq_some_iff.1 hj).1
   obtain rfl : j = 0 := by simp at hl; omega
   simp at hj
   subst hj
   exact cell_of (obj_alloc_new _ _) rfl, by
   have := List.mem_of_getElem? hj
   rw [List.mem_singleton] at this
   subst this
   unfold maxLen; omega⟩⟩, fun n c e => by cases e⟩
theorem Tryz.sizeCert : (Tryz.prog.info? 64).map (·.size) = some 7 := by kernel_rfl
end Go.Proofs.YthdfplafihmejaaGreat
