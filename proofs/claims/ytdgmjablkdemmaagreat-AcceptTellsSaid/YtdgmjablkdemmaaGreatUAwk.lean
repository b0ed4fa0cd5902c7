/-
  Layer 12: awake in plain Lean; its closures.
-/
import Derived.Test.YtdgmjablkdemmaaGreatULarge
import Derived.Test.YtdgmjablkdemmaaGreatWide
import Derived.Test.YtdgmjablkdemmaaGreatTree
namespace Go.Proofs.YtdgmjablkdemmaaGreat
open Go.RowKit Go.Maps

theorem kword_any (w : World) (i : Nat) (z : Int) (hz : z = i) (x : ByteArray) (hi : i < 100) (hx : (⟨(ofAtoms [8192 + i]).toArray⟩ : ByteArray) = x) : Calls Tryz.prog 51 #[.int .i64 z] w fun e w' => e = .returned (.string x) ∧ Chg (fun _ => False) w w' := by
  subst hz
  have w1 : IntKind.i64.wrap (8192 + (i : Int)) = ((8192 + i : Nat) : Int) := by rw [IntKind.wrap_i64]; omega
  have w2 : IntKind.u16.wrap ((8192 + i : Nat) : Int) = ((8192 + i : Nat) : Int) := by show ((8192 + i : Nat) : Int) % 65536 = _; omega
  have OF := Lib.hid (of_one w (8192 + i) _ rfl x (by omega) hx)
  clear hx
  go_enter Tryz.func51, Tryz.ntmps51
  generalize 8192 + i = n at *
  go_wp2_with fail
  (with_reducible refine (OF.out).mono ?_)
  rintro e w2 ⟨rfl, k2⟩
  go_wp2
  go_ret
  exact ⟨rfl, k2⟩
def sc12 (by_ : Nat) (x y : ByteArray) : BCert := ⟨6, 8192 + by_, x, [y], 0, 0, 0⟩
def SaysRes (w : World) (c : BCert) (e : Ending) (w' : World) : Prop := ∃ g, e = .returned (certV c (.slice (some ⟨g, 0, none⟩) 1 1)) ∧ CertAt w' (.slice (some ⟨g, 0, none⟩) 1 1) (fun k => k = g) c ∧ w.heap.size ≤ g ∧ g < w'.heap.size ∧ Chg (fun _ => False) w w'
set_option maxHeartbeats 4000000 in
set_option maxRecDepth 100000 in
theorem says_any (w : World) (p q i j : Nat) (z1 z2 : Int) (hz1 : z1 = i) (hz2 : z2 = j) (x y : ByteArray) (hi : i < 100) (hj : j < 100) (hx : (⟨(ofAtoms [8192 + j]).toArray⟩ : ByteArray) = x) (hxs : x.size ≤ 100) (hys : y.size ≤ 100)
    (h1 : w.heap[p]? = some (.cells #[.func (.func 51) #[] #[]] 93 (0, 0))) (h2 : w.heap[q]? = some (.cells #[.string y] 23 (0, 0))) :
    Calls Tryz.prog 52 #[.int .i64 z1, .int .i64 z2, .pointer (some ⟨p, 0, none⟩), .pointer (some ⟨q, 0, none⟩)] w (SaysRes w (sc12 i x y)) := by
  subst hz1 hz2
  have w1 : IntKind.i64.wrap (8192 + (i : Int)) = ((8192 + i : Nat) : Int) := by rw [IntKind.wrap_i64]; omega
  have w2 : IntKind.u16.wrap ((8192 + i : Nat) : Int) = ((8192 + i : Nat) : Int) := by show ((8192 + i : Nat) : Int) % 65536 = _; omega
  have KW := Lib.hid (fun w => kword_any w j (j : Int) rfl x hj hx)
  have eg : ∀ args w, (callFunc 51 args).run Tryz.prog w = .ok (.enter 51 args) w := enters_of Tryz.func51 (by kernel_rfl) rfl
  have k0 := chg_alloc (fun _ => False) w (.cells #[.int .i64 0, .int .u16 0, .string ⟨#[]⟩, .slice none 0 0, .int .i64 0, .int .i64 0, .int .i64 0] 34)
  have o0 := obj_alloc_new w (.cells #[.int .i64 0, .int .u16 0, .string ⟨#[]⟩, .slice none 0 0, .int .i64 0, .int .i64 0, .int .i64 0] 34)
  have o1 := k0.obj (fun e => e) h1
  have o2 := k0.obj (fun e => e) h2
  have c1 := cell_of (o := 0) o1 rfl
  have c2 := cell_of (o := 0) o2 rfl
  have hs0 : w.heap.size < (w.alloc (.cells #[.int .i64 0, .int .u16 0, .string ⟨#[]⟩, .slice none 0 0, .int .i64 0, .int .i64 0, .int .i64 0] 34)).heap.size := by rw [World.size_alloc]; omega
  have FIN := Lib.hid (fun (W : World) (g : Nat) (h : SetAt W (.slice (some ⟨g, 0, none⟩) 1 1) (fun k => k = g) [y]) (hg : w.heap.size ≤ g) (hg2 : g < W.heap.size) (hc : Chg (fun _ => False) w W) => (show SaysRes w (sc12 i x y) (.returned (.agg #[.int .i64 6, .int .u16 ((8192 + i : Nat) : Int), .string x, .slice (some ⟨g, 0, none⟩) 1 1, .int .i64 0, .int .i64 0, .int .i64 0])) W from
    ⟨g, rfl, ⟨h, by show x.size ≤ maxLen; unfold maxLen; omega, by show 8192 + i < 65536; omega⟩, hg, hg2, hc⟩))
  have K0 := Lib.hid k0
  have O0 := Lib.hid o0
  clear k0 o0 o1 o2 h1 h2 hx
  generalize SaysRes w (sc12 i x y) = POST at *
  go_enter Tryz.func52, Tryz.ntmps52
  generalize 8192 + i = n at *
  go_wp2_with fail
  generalize hw0 : w.alloc (.cells #[.int .i64 0, .int .u16 0, .string ⟨#[]⟩, .slice none 0 0, .int .i64 0, .int .i64 0, .int .i64 0] 34) = w0 at *
  clear hw0
  have d1 : w0.drew.cell? ⟨p, 0, none⟩ = some (.func (.func 51) #[] #[]) := c1
  have d2 : w0.drew.cell? ⟨q, 0, none⟩ = some (.string y) := c2
  refine wp_region_tree (N := 16) (.rd [0, 1, 2, 3, 4, 6] (.two 5 7 (.ef 7 (.rd [8] (.ef 9 .nil))) (.ef 5 (.rd [8] (.ef 9 .nil))))) 9 (fun w' => w'.cell? ⟨p, 0, none⟩ = some (.func (.func 51) #[] #[]) ∧ w'.cell? ⟨q, 0, none⟩ = some (.string y)) (by kernel_rfl) (by kernel_rfl) (by kernel_rfl) (by kernel_rfl) (Nat.le_of_ble_eq_true rfl) ⟨d1, d2⟩ ?_
  refine tree_rd (A := ?Aa) ?ha1 ?ha2
  case ha1 =>
    rintro w' ⟨q0, q1⟩ K hK
    simp only [opsAt, List.filterMap_cons, List.filterMap_nil, List.getElem?_toArray, List.getElem?_cons_succ, List.getElem?_cons_zero]
    repeat still_step
    refine wpStill_nil ?_
    exact hK
  have KD := Lib.hid (K0.out.drew)
  have OD := Lib.hid ((chg_drew (fun _ => False) w0).obj (fun e => e) O0.out)
  have hsd : w.heap.size < w0.drew.heap.size := hs0
  clear c1 c2 hs0 K0 O0
  generalize w0.drew = wd at *
  refine tree_two rfl rfl ?t1 ?t2
  case t1 =>
    go_wp2_with fail
    (with_reducible refine (KW.out _).mono ?_)
    rintro e w2 ⟨rfl, k2⟩
    have d3 := cell_chg k2 (fun e => e) d1
    have d4 := cell_chg k2 (fun e => e) d2
    have K2 := Lib.hid (KD.out.trans k2)
    have O2 := Lib.hid (k2.obj (fun e => e) OD.out)
    have hs2 := Nat.lt_of_lt_of_le hsd k2.size
    have SL := Lib.hid (setAt_l1 w2 y hys)
    have ka := chg_alloc (fun _ => False) w2 (.cells #[.string y] 23)
    have d5 := cell_chg ka (fun e => e) d3
    have d6 := cell_chg ka (fun e => e) d4
    have K3 := Lib.hid (K2.out.trans ka)
    have O3 := Lib.hid (ka.obj (fun e => e) O2.out)
    have hs3 : w2.heap.size < (w2.alloc (.cells #[.string y] 23)).heap.size := by rw [World.size_alloc]; omega
    clear k2 ka
    go_wp2_with fail
    refine ⟨⟨d3, d4⟩, ?_⟩
    refine tree_ef rfl ?_
    go_wp2_with fail
    refine ⟨.inr ⟨d5, d6⟩, ?_⟩
    refine tree_rd (A := ?Ab) ?hb1 ?hb2
    case hb1 =>
      intro w' hS K hK
      clear hS
      simp only [opsAt, List.filterMap_cons, List.filterMap_nil, List.getElem?_toArray, List.getElem?_cons_succ, List.getElem?_cons_zero]
      repeat still_step
      refine wpStill_nil ?_
      exact hK
    clear d1 d2 d3 d4 d5 d6
    generalize hgg : w2.heap.size = g at *
    generalize w2.alloc (.cells #[.string y] 23) = w3 at *
    refine tree_ef rfl ?_
    refine wpList_store_all rfl 34 (.tmp 6) (.tmp 15) rfl w.heap.size rfl (.agg #[.int .i64 6, .int .u16 (n : Int), .string x, .slice (some ⟨g, 0, none⟩) 1 1, .int .i64 0, .int .i64 0, .int .i64 0]) rfl ?s1 #[.int .i64 0, .int .u16 0, .string ⟨#[]⟩, .slice none 0 0, .int .i64 0, .int .i64 0, .int .i64 0] 34 O3.out rfl Tryz.sizeCert ?s4
    case s1 =>
      intro u hu
      have : u ∈ [Value.int .i64 6, .int .u16 (n : Int), .string x, .slice (some ⟨g, 0, none⟩) 1 1, .int .i64 0, .int .i64 0, .int .i64 0] := hu
      simp at this
      rcases this with rfl | rfl | rfl | rfl | rfl | rfl <;> rfl
    intro W oc k4
    refine ⟨.inl rfl, tree_nil ?_⟩
    have SLW := SL.out.chg k4 (fun k hk e => by omega)
    have KW2 := K3.out.next k4 (fun k hk e => by omega)
    have hsw := Nat.lt_of_lt_of_le hs3 k4.size
    have z0 : W.cell? ⟨w.heap.size, 0, none⟩ = some (.int .i64 6) := cell_of oc rfl
    have z1 : W.cell? ⟨w.heap.size, 1, none⟩ = some (.int .u16 (n : Int)) := cell_of oc rfl
    have z2 : W.cell? ⟨w.heap.size, 2, none⟩ = some (.string x) := cell_of oc rfl
    have z3 : W.cell? ⟨w.heap.size, 3, none⟩ = some (.slice (some ⟨g, 0, none⟩) 1 1) := cell_of oc rfl
    have z4 : W.cell? ⟨w.heap.size, 4, none⟩ = some (.int .i64 0) := cell_of oc rfl
    have z5 : W.cell? ⟨w.heap.size, 5, none⟩ = some (.int .i64 0) := cell_of oc rfl
    have z6 : W.cell? ⟨w.heap.size, 6, none⟩ = some (.int .i64 0) := cell_of oc rfl
    clear k4 oc
    go_wp2
    refine bodyPost_ret (v := .agg #[.int .i64 6, .int .u16 (n : Int), .string x, .slice (some ⟨g, 0, none⟩) 1 1, .int .i64 0, .int .i64 0, .int .i64 0]) (by simp [results, Tryz.results52, go_sem, z0, z1, z2, z3, z4, z5, z6]) rfl ?_
    exact FIN.out W g SLW (by omega) hsw KW2
  case t2 =>
    have SL := Lib.hid (setAt_l1 wd y hys)
    have ka := chg_alloc (fun _ => False) wd (.cells #[.string y] 23)
    have d3 := cell_chg ka (fun e => e) d1
    have d4 := cell_chg ka (fun e => e) d2
    have K2 := Lib.hid (KD.out.trans ka)
    have O2 := Lib.hid (ka.obj (fun e => e) OD.out)
    have hs3 : wd.heap.size < (wd.alloc (.cells #[.string y] 23)).heap.size := by rw [World.size_alloc]; omega
    clear ka
    go_wp2_with fail
    refine ⟨⟨d3, d4⟩, ?_⟩
    refine tree_ef rfl ?_
    go_wp2_with fail
    generalize hgg : wd.heap.size = g at *
    generalize wd.alloc (.cells #[.string y] 23) = w2 at *
    (with_reducible refine (KW.out _).mono ?_)
    rintro e w3 ⟨rfl, k2⟩
    have SL2 := Lib.hid (SL.out.chg k2 (fun _ _ e => e))
    have d5 := cell_chg k2 (fun e => e) d3
    have d6 := cell_chg k2 (fun e => e) d4
    have K3 := Lib.hid (K2.out.trans k2)
    have O3 := Lib.hid (k2.obj (fun e => e) O2.out)
    have hs4 := Nat.lt_of_lt_of_le hs3 k2.size
    clear k2
    go_wp2_with fail
    refine ⟨.inr ⟨d5, d6⟩, ?_⟩
    refine tree_rd (A := ?Ac) ?hc1 ?hc2
    case hc1 =>
      intro w' hS K hK
      clear hS
      simp only [opsAt, List.filterMap_cons, List.filterMap_nil, List.getElem?_toArray, List.getElem?_cons_succ, List.getElem?_cons_zero]
      repeat still_step
      refine wpStill_nil ?_
      exact hK
    clear d1 d2 d3 d4 d5 d6
    refine tree_ef rfl ?_
    refine wpList_store_all rfl 34 (.tmp 6) (.tmp 15) rfl w.heap.size rfl (.agg #[.int .i64 6, .int .u16 (n : Int), .string x, .slice (some ⟨g, 0, none⟩) 1 1, .int .i64 0, .int .i64 0, .int .i64 0]) rfl ?s2 #[.int .i64 0, .int .u16 0, .string ⟨#[]⟩, .slice none 0 0, .int .i64 0, .int .i64 0, .int .i64 0] 34 O3.out rfl Tryz.sizeCert ?s5
    case s2 =>
      intro u hu
      have : u ∈ [Value.int .i64 6, .int .u16 (n : Int), .string x, .slice (some ⟨g, 0, none⟩) 1 1, .int .i64 0, .int .i64 0, .int .i64 0] := hu
      simp at this
      rcases this with rfl | rfl | rfl | rfl | rfl | rfl <;> rfl
    intro W oc k4
    refine ⟨.inl rfl, tree_nil ?_⟩
    have SLW := SL2.out.chg k4 (fun k hk e => by omega)
    have KW2 := K3.out.next k4 (fun k hk e => by omega)
    have hsw := Nat.lt_of_lt_of_le hs4 k4.size
    have z0 : W.cell? ⟨w.heap.size, 0, none⟩ = some (.int .i64 6) := cell_of oc rfl
    have z1 : W.cell? ⟨w.heap.size, 1, none⟩ = some (.int .u16 (n : Int)) := cell_of oc rfl
    have z2 : W.cell? ⟨w.heap.size, 2, none⟩ = some (.string x) := cell_of oc rfl
    have z3 : W.cell? ⟨w.heap.size, 3, none⟩ = some (.slice (some ⟨g, 0, none⟩) 1 1) := cell_of oc rfl
    have z4 : W.cell? ⟨w.heap.size, 4, none⟩ = some (.int .i64 0) := cell_of oc rfl
    have z5 : W.cell? ⟨w.heap.size, 5, none⟩ = some (.int .i64 0) := cell_of oc rfl
    have z6 : W.cell? ⟨w.heap.size, 6, none⟩ = some (.int .i64 0) := cell_of oc rfl
    clear k4 oc
    go_wp2
    refine bodyPost_ret (v := .agg #[.int .i64 6, .int .u16 (n : Int), .string x, .slice (some ⟨g, 0, none⟩) 1 1, .int .i64 0, .int .i64 0, .int .i64 0]) (by simp [results, Tryz.results52, go_sem, z0, z1, z2, z3, z4, z5, z6]) rfl ?_
    exact FIN.out W g SLW (by omega) hsw KW2
/-! what the document fixes -/
def kB (i : Nat) : ByteArray := ⟨#[32, UInt8.ofNat i]⟩
def nB : ByteArray := ⟨#[96, 1]⟩
def awR12 : List BRul := [(nB, kB 1)]
def awC12 : List BCert := [sc12 2 (kB 3) nB, sc12 1 (kB 2) nB, sc12 4 (kB 5) nB]
def aw12 : ASt := ⟨[1, 0], [(nB, kB 1), (nB, kB 2), (nB, kB 3)]⟩
def isOk (x : Except Int ASt) (s : ASt) : Bool := match x with
  | .ok t => decide (t.order = s.order) && decide (t.rules = s.rules)
  | .error _ => false
def isErr (x : Except Int ASt) (k : Int) : Bool := match x with
  | .ok _ => false
  | .error j => decide (j = k)
theorem of_isOk {x : Except Int ASt} {s : ASt} (h : isOk x s = true) : x = .ok s := by
  unfold isOk at h
  cases x with
  | error e => cases h
  | ok t =>
    simp only [Bool.and_eq_true, decide_eq_true_eq] at h
    cases t; cases s
    simp at h
    rw [h.1, h.2]
theorem of_isErr {x : Except Int ASt} {k : Int} (h : isErr x k = true) : x = .error k := by
  unfold isErr at h
  cases x with
  | ok t => cases h
  | error e => simp at h; rw [h]
theorem aw12_run : acceptE awR12 awC12 9 = .ok aw12 := of_isOk (by decide +kernel)
theorem aw12_bad : acceptE awR12 [noC] 9 = .error 2 := of_isErr (by decide +kernel)
theorem aw12_over : acceptE awR12 awC12 1 = .error 12 := of_isErr (by decide +kernel)
theorem aw12_back : backedE awR12 9 (sc12 1 (kB 2) nB) = (true, 0) := by decide +kernel
end Go.Proofs.YtdgmjablkdemmaaGreat
