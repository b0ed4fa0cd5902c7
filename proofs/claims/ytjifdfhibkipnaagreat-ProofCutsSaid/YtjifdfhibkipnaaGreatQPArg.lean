/-
  QLarge: what else.
  QPMk: what else.
-/
import Derived.Test.YtjifdfhibkipnaaGreatQLarge
import Derived.Test.YtjifdfhibkipnaaGreatQPMk
import Derived.Test.YtjifdfhibkipnaaGreatQChkP
namespace Go.Proofs.YtjifdfhibkipnaaGreat
open Go.RowKit Go.Maps

theorem wcells_pair (a b : ByteArray) : wcells [a, b] = [.string a, .string b] := rfl
end Go.Proofs.YtjifdfhibkipnaaGreat

namespace Go.Proofs.YtjifdfhibkipnaaGreat
open Go.RowKit Go.Maps

set_option maxHeartbeats 4000000 in
set_option maxRecDepth 100000 in
theorem long13_any (w : World) (iv sv : Value) (G : Nat → Prop) (p : BProof) (hp : ProofAt w iv sv G p) :
    Calls Tryz.prog 15 #[.agg #[iv, sv]] w (Long13Res w p) := by
  have HP := Lib.hid hp
  have il := hp.items
  have sl := hp.steps.len
  obtain ⟨ia, ic, rfl, il, _⟩ := il
  unfold maxLen at il
  obtain ⟨sa, sc, rfl⟩ := hp.steps.shape
  have FIN := Lib.hid (show (p.items.length ≤ 12 ∧ p.steps.length ≤ 60) → (∀ (j : Nat) x, j < p.items.length → p.items[j]? = some x → x.paths.length ≤ 20 ∧ ∀ l ∈ x.paths, l.length ≤ 60) → Short13 p from fun h1 h2 => ⟨h1.1, h1.2, fun x hx => by
    obtain ⟨j, hj⟩ := List.mem_iff_getElem?.1 hx
    exact h2 j x (List.getElem?_eq_some_iff.1 hj).1 hj⟩)
  clear hp
  have OB := Lib.hid (obj_alloc_new w (.cells #[.slice ia p.items.length ic, .slice sa p.steps.length sc] 30))
  have KB := Lib.hid (chg_alloc (fun _ => False) w (.cells #[.slice ia p.items.length ic, .slice sa p.steps.length sc] 30))
  go_enter Tryz.func15, Tryz.ntmps15
  go_upto_region 1 with fail
  obtain ⟨b0, hb0⟩ : ∃ b0, b0 = w.heap.size := ⟨_, rfl⟩
  rw [← hb0] at OB
  rw [← hb0]
  generalize w.alloc (.cells #[.slice ia p.items.length ic, .slice sa p.steps.length sc] 30) = w1 at *
  have q0 := cell_of (o := 0) OB.out rfl
  have q1 := cell_of (o := 1) OB.out rfl
  clear hb0
  go_cut [14] (fun cv wc => ∃ x : Bool, cv = .bool x ∧ Hid (w1 = wc) ∧ Hid (x = false → p.items.length ≤ 12 ∧ p.steps.length ≤ 60))
  case first =>
    by_cases h8 : 12 < p.items.length
    · have g8 : decide (12 < (p.items.length : Int)) = true := decide_eq_true (by omega)
      have g8' : decide (12 < p.items.length) = true := decide_eq_true h8
      go_wp2
      go_meet
      case rel => exact ⟨true, rfl, Lib.hid rfl, Lib.hid (fun e => by cases e)⟩
    have g8 : decide (12 < (p.items.length : Int)) = false := decide_eq_false (by omega)
    have g8' : decide (12 < p.items.length) = false := decide_eq_false h8
    by_cases h12 : 60 < p.steps.length
    · have g12 : decide (60 < (p.steps.length : Int)) = true := decide_eq_true (by omega)
      have g12' : decide (60 < p.steps.length) = true := decide_eq_true h12
      go_wp2
      go_meet
      case rel => exact ⟨true, rfl, Lib.hid rfl, Lib.hid (fun e => by cases e)⟩
    have g12 : decide (60 < (p.steps.length : Int)) = false := decide_eq_false (by omega)
    have g12' : decide (60 < p.steps.length) = false := decide_eq_false h12
    have RR := Lib.hid (show p.items.length ≤ 12 ∧ p.steps.length ≤ 60 from ⟨by omega, by omega⟩)
    go_wp2
    go_meet
    case rel => exact ⟨false, rfl, Lib.hid rfl, Lib.hid (fun _ => RR.out)⟩
  case rest =>
    obtain ⟨x, rfl, hw, hx⟩ := hcut
    have hw := hw.out
    subst hw
    cases x with
    | true =>
      go_wp2
      go_ret
      exact ⟨true, rfl, KB.out, fun e => by cases e⟩
    | false =>
    have HX := Lib.hid (hx.out rfl)
    have hi12 := HX.out.1
    clear hx
    go_wp2
    go_loopw [18] (fun iv wr => ∃ k : Nat, k ≤ p.items.length ∧ iv = .int .i64 k ∧ Hid (w1 = wr) ∧ Hid (∀ (j : Nat) x, j < k → p.items[j]? = some x → x.paths.length ≤ 20 ∧ ∀ l ∈ x.paths, l.length ≤ 60)) (fun iv _ => p.items.length - (intOf iv).toNat)
    case atStart => exact ⟨0, by omega, rfl, Lib.hid rfl, Lib.hid (fun j r hj => by omega)⟩
    case round =>
      obtain ⟨k, hk, rfl, hw, HI⟩ := hrel
      have hw := hw.out
      subst hw
      by_cases hlt : k < p.items.length
      rotate_left
      · obtain rfl : k = p.items.length := by omega
        go_wp2
        go_ret
        exact ⟨false, rfl, KB.out, fun _ => FIN.out HX.out HI.out⟩
      have g1 : decide ((k : Int) < (p.items.length : Int)) = true := decide_eq_true (by omega)
      have g1' : decide (k < p.items.length) = true := decide_eq_true hlt
      obtain ⟨x, hx⟩ : ∃ x, p.items[k]? = some x := ⟨_, List.getElem?_eq_getElem hlt⟩
      obtain ⟨_, _, e1, _, hcl⟩ := HP.out.items
      cases e1
      obtain ⟨lb, lo, pv, rfl, _, j0, j1, hpa⟩ := hcl k _ hx
      have hpl := hpa.len
      obtain ⟨pa, pc, rfl⟩ := hpa.shape
      have i1 := cell_chg KB.out (fun e => e) j1
      have HPA := Lib.hid hpa
      have HXX := Lib.hid hx
      have NX := Lib.hid (show (x.paths.length ≤ 20 ∧ ∀ l ∈ x.paths, l.length ≤ 60) → ∀ (j : Nat) y, j < k + 1 → p.items[j]? = some y → y.paths.length ≤ 20 ∧ ∀ l ∈ y.paths, l.length ≤ 60 from fun z j y hj hjy => by
        rcases Nat.lt_or_ge j k with q | q
        · exact HI.out j y q hjy
        · obtain rfl : j = k := by omega
          rw [HXX.out] at hjy; cases hjy
          exact z)
      clear hcl hx hpa j0 j1 HI HXX
      by_cases h1 : 20 < x.paths.length
      · have m3 : decide (20 < (x.paths.length : Int)) = true := decide_eq_true (by omega)
        have m3' : decide (20 < x.paths.length) = true := decide_eq_true h1
        go_wp2
        go_ret
        exact ⟨true, rfl, KB.out, fun e => by cases e⟩
      have m3 : decide (20 < (x.paths.length : Int)) = false := decide_eq_false (by omega)
      have m3' : decide (20 < x.paths.length) = false := decide_eq_false h1
      go_wp2
      go_loopw [36] (fun iv wz => ∃ q : Nat, q ≤ x.paths.length ∧ iv = .int .i64 q ∧ Hid (w1 = wz) ∧ Hid (∀ (j : Nat) l, j < q → x.paths[j]? = some l → l.length ≤ 60)) (fun iv _ => x.paths.length - (intOf iv).toNat)
      case atStart => exact ⟨0, by omega, rfl, Lib.hid rfl, Lib.hid (fun j r hj => by omega)⟩
      case round =>
        obtain ⟨q, hq, rfl, hw, HQ⟩ := hrel
        have hw := hw.out
        subst hw
        by_cases hql : q < x.paths.length
        rotate_left
        · obtain rfl : q = x.paths.length := by omega
          have NX2 := Lib.hid (NX.out ⟨by omega, fun l hl => by
            obtain ⟨j, hj⟩ := List.mem_iff_getElem?.1 hl
            exact HQ.out j l (List.getElem?_eq_some_iff.1 hj).1 hj⟩)
          go_wp2
          go_roundw
          case rel => exact ⟨k + 1, by omega, by go_num, Lib.hid (by first | trivial | rfl), NX2⟩
          case measure => simp [intOf]; omega
        have m1 : decide ((q : Int) < (x.paths.length : Int)) = true := decide_eq_true (by omega)
        have m1' : decide (q < x.paths.length) = true := decide_eq_true hql
        obtain ⟨l, hl⟩ : ∃ l, x.paths[q]? = some l := ⟨_, List.getElem?_eq_getElem hql⟩
        obtain ⟨_, _, e1, _, hcl⟩ := HPA.out
        cases e1
        obtain ⟨lb2, lo2, pv2, rfl, _, q0', hst⟩ := hcl q l hl
        have hll := hst.len
        obtain ⟨qa, qc, rfl⟩ := hst.shape
        have p0 := cell_chg KB.out (fun e => e) q0'
        have HLL := Lib.hid hl
        clear hcl hl hst q0'
        by_cases h3 : 60 < l.length
        · have m5 : decide (60 < (l.length : Int)) = true := decide_eq_true (by omega)
          have m5' : decide (60 < l.length) = true := decide_eq_true h3
          go_wp2
          go_ret
          exact ⟨true, rfl, KB.out, fun e => by cases e⟩
        have m5 : decide (60 < (l.length : Int)) = false := decide_eq_false (by omega)
        have m5' : decide (60 < l.length) = false := decide_eq_false h3
        go_wp2
        go_roundw
        case rel => exact ⟨q + 1, by omega, by go_num, Lib.hid (by first | trivial | rfl), Lib.hid (fun j y hj hjy => by
          rcases Nat.lt_or_ge j q with z | z
          · exact HQ.out j y z hjy
          · obtain rfl : j = q := by omega
            rw [HLL.out] at hjy; cases hjy
            omega)⟩
        case measure => simp [intOf]; omega
end Go.Proofs.YtjifdfhibkipnaaGreat

namespace Go.Proofs.YtjifdfhibkipnaaGreat
open Go.ChangeShapes Go.WideShapes Go.ChangeAt Go.RowKit Go.Maps

theorem proofArg_of {W : World} {H : Type} {enc : TypeId × Value → H} {cs : Array Value} {d : DataW H} {ps : List MemPlace} (h : DataW.Trod enc Tryz.prog W 0 (fun _ => true) true 30 (.agg cs) d ps) : ∃ p, ProofArg W (.agg cs) p := by
  obtain ⟨fuel, hf⟩ := h
  obtain ⟨iv, sv, p, e, hp, hq⟩ := proof_of hf
  have e' : cs.toList = [iv, sv] := e
  have e2 : cs = #[iv, sv] := Array.toList_inj.1 e'
  obtain ⟨ia, ic, e3⟩ := hp.items.shape
  obtain ⟨sa, sc, e4⟩ := hp.steps.shape
  subst e3 e4
  exact ⟨p, ia, ic, sa, sc, by rw [e2], hp, hq⟩
theorem Short13.sizes {p : BProof} (h : Short13 p) : p.items.length ≤ 1000 ∧ p.steps.length ≤ 1000000 ∧ ∀ x ∈ p.items, x.paths.length ≤ 1000 ∧ ∀ l ∈ x.paths, l.length ≤ 1000000 :=
  ⟨by have := h.items; omega, by have := h.steps; omega, fun x hx => ⟨by have := (h.path x hx).1; omega, fun l hl => by have := (h.path x hx).2 l hl; omega⟩⟩
/-- The cut proof is no longer. -/
theorem cut_sizes {roots : Int} {C : List BCert} {p : BProof} (h1 : p.items.length ≤ 1000) (h2 : p.steps.length ≤ 1000000) (h3 : ∀ x ∈ p.items, x.paths.length ≤ 1000 ∧ ∀ l ∈ x.paths, l.length ≤ 1000000) : (cutE roots C p).items.length ≤ 1000 ∧ (cutE roots C p).steps.length ≤ 1000000 ∧ ∀ x ∈ (cutE roots C p).items, x.paths.length ≤ 1000 ∧ ∀ l ∈ x.paths, l.length ≤ 1000000 := by
  refine ⟨Nat.le_trans (cut_len _ _ _) h1, ?_, fun x hx => ?_⟩
  · rw [cut_steps]; unfold anewL; rw [List.length_map]; exact h2
  · obtain ⟨k, hk⟩ := List.mem_iff_getElem?.1 hx
    obtain ⟨i, y, hy, _, rfl, _⟩ := cut_get hk
    obtain ⟨q1, q2⟩ := h3 y (List.mem_of_getElem? hy)
    unfold newX newI
    refine ⟨by simp only; rw [List.length_map]; exact q1, fun l hl => ?_⟩
    obtain ⟨m, hm, rfl⟩ := List.mem_map.1 hl
    unfold anewL
    rw [List.length_map]
    exact q2 m hm
end Go.Proofs.YtjifdfhibkipnaaGreat

namespace Go.Proofs.YtjifdfhibkipnaaGreat
open Go.RowKit Go.Maps

end Go.Proofs.YtjifdfhibkipnaaGreat

namespace Go.Proofs.YtjifdfhibkipnaaGreat
open Go.RowKit Go.Maps

set_option maxHeartbeats 16000000 in
set_option maxRecDepth 100000 in
theorem copied_any (w : World) (iv sv : Value) (p : BProof) (G' : Nat → Prop) (hp : ProofAt w iv sv G' p) (hI : p.items.length ≤ 1000) (hL : p.steps.length ≤ 1000000) (hLs : ∀ x ∈ p.items, x.paths.length ≤ 1000 ∧ ∀ l ∈ x.paths, l.length ≤ 1000000) :
    Calls Tryz.prog 16 #[.agg #[iv, sv]] w (CopyRes w p) := by
  have HP := Lib.hid hp
  have HLS := Lib.hid hLs
  have HSN := Lib.hid hp.steps
  obtain ⟨ia, ic, rfl⟩ := hp.items.shape
  obtain ⟨sa, sc, rfl⟩ := hp.steps.shape
  have k1 := chg_alloc (fun _ => False) w (.cells #[.slice ia p.items.length ic, .slice sa p.steps.length sc] 30)
  have k2 := chg_alloc (fun _ => False) (w.alloc (.cells #[.slice ia p.items.length ic, .slice sa p.steps.length sc] 30)) (.cells #[.slice none 0 0, .slice none 0 0] 30)
  have o1 := obj_alloc_new (w.alloc (.cells #[.slice ia p.items.length ic, .slice sa p.steps.length sc] 30)) (.cells #[.slice none 0 0, .slice none 0 0] 30)
  rw [World.size_alloc] at o1
  have O0 := Lib.hid (k2.obj (fun e => e) (obj_alloc_new w (.cells #[.slice ia p.items.length ic, .slice sa p.steps.length sc] 30)))
  have O1 := Lib.hid o1
  have K2 := Lib.hid (k1.trans k2)
  have hs2 : ((w.alloc (.cells #[.slice ia p.items.length ic, .slice sa p.steps.length sc] 30)).alloc (.cells #[.slice none 0 0, .slice none 0 0] 30)).heap.size = w.heap.size + 2 := by rw [World.size_alloc, World.size_alloc]
  have HS2 := Lib.hid hs2
  have il : p.items.length ≤ 1000 := hI
  clear k1 k2 o1 hp hLs hs2
  go_enter Tryz.func16, Tryz.ntmps16
  go_upto_region 1 with fail
  generalize (w.alloc (.cells #[.slice ia p.items.length ic, .slice sa p.steps.length sc] 30)).alloc (.cells #[.slice none 0 0, .slice none 0 0] 30) = w1 at *
  have hs12 : w.heap.size + 2 ≤ w1.heap.size := by have := HS2.out; omega
  clear HS2
  have ka0 := chg_alloc (fun _ => False) w1 (.cells #[] 45)
  have q1 := cell_of (o := 1) (ka0.obj (fun e => e) O0.out) rfl
  go_wp2_with (at_builtin; refine wpList_pushS rfl (.tmp 7) (.tmp 9) 28 rfl 45 2 16 Tryz.underlying28 Tryz.elemStep w1.heap.size _ 0 [] rfl (own_empty _ _ _ _ (Nat.le_refl _)) sa p.steps.length sc (scells p.steps) rfl ?a1 ?a2 ?a3 ?a4 ?a5 ?a6 ?a7 ?nx1)
  case a1 => exact scells_length _
  case a2 => exact steps_src (HSN.out.chg (K2.out.trans ka0) (fun _ _ e => e)).at_
  case a3 => intro e; exact HSN.out.nil _ _ (by rw [e])
  case a4 => exact scells_one _
  case a5 => omega
  case a6 => unfold maxLen; omega
  case a7 => exact ka0.size
  intro v3 w3 o3 g3
  obtain ⟨a3, c3, rfl⟩ := own_shape o3
  have k3 : Chg (fun _ => False) w1 w3 := ka0.next (Chg.of_grown g3) (fun x hx e => by
    have e2 : w1.heap.size = x := by simpa [Value.ownBlock] using e
    omega)
  try rw [Nat.zero_add, List.nil_append] at o3
  try rw [Nat.zero_add]
  have kb3 := chg_alloc (fun _ => False) w3 (.cells #[.slice none 0 0, .slice a3 p.steps.length c3] 30)
  have HS3 := Lib.hid (own_chg o3 kb3 (fun _ _ e => e))
  have OBR := Lib.hid (obj_alloc_new w3 (.cells #[.slice none 0 0, .slice a3 p.steps.length c3] 30))
  have KWM := Lib.hid (K2.out.trans (k3.trans kb3))
  have O0M := Lib.hid ((k3.trans kb3).obj (fun e => e) O0.out)
  have O1M := Lib.hid ((k3.trans kb3).obj (fun e => e) O1.out)
  have HZ := Lib.hid (show w.heap.size + 2 ≤ w3.heap.size ∧ w1.heap.size ≤ w3.heap.size from ⟨by have := k3.size; omega, k3.size⟩)
  have KP0 := Lib.hid (show KeptAt (w3.alloc (.cells #[.slice none 0 0, .slice a3 p.steps.length c3] 30)) (w3.alloc (.cells #[.slice none 0 0, .slice a3 p.steps.length c3] 30)) w3.heap.size (.slice none 0 0) (.slice a3 p.steps.length c3) [] (fun _ => False) from
        ⟨OBR.out, ⟨rfl, .inl ⟨rfl, rfl⟩⟩, fun x hx => (by cases hx), fun _ e => e.elim⟩)
  have O3LT := Lib.hid (fun k (hk : (Value.slice a3 p.steps.length c3).ownBlock = some k) => (o3.lt k hk).2)
  have q0 := cell_of (o := 0) O0M.out rfl
  clear ka0 q1 o3 g3 k3 kb3 O0 O1 K2 HSN
  go_wp2_with fail
  clear q0
  generalize w3.alloc (.cells #[.slice none 0 0, .slice a3 p.steps.length c3] 30) = wM at *
  generalize w3.heap.size = br at *
  go_loopw [15] (fun iv wr => ∃ (k : Nat) (ivv : Value) (xs : List (BItem × Value)) (Gx : Nat → Prop), k ≤ p.items.length ∧ iv = .int .i64 k ∧ Hid (KeptAt wM wr br ivv (.slice a3 p.steps.length c3) xs Gx ∧ Chg (fun j => j = br) wM wr ∧ xs.map Prod.fst = p.items.take k)) (fun iv _ => p.items.length - (intOf iv).toNat)
  case atStart => exact ⟨0, _, [], _, by omega, rfl, Lib.hid ⟨KP0.out, Chg.refl _ _, by simp⟩⟩
  case round =>
    obtain ⟨k, ivv, xs, Gx, hk, rfl, HI⟩ := hrel
    have KP := Lib.hid HI.out.1
    have KC := Lib.hid HI.out.2.1
    have XM := Lib.hid HI.out.2.2
    have NB := Lib.hid (show ∀ b : Nat, b < w.heap.size + 2 → ¬ b = br from fun b h e => by have := HZ.out.1; omega)
    have KW := Lib.hid (KWM.out.next KC.out (fun i hi e => by have := HZ.out.1; omega))
    have O0R := Lib.hid (KC.out.obj (NB.out _ (by omega)) O0M.out)
    have O1R := Lib.hid (KC.out.obj (NB.out _ (by omega)) O1M.out)
    clear HI
    by_cases hlt : k < p.items.length
    · as_aux_lemma =>
      obtain ⟨x, hx⟩ : ∃ x, p.items[k]? = some x := ⟨_, List.getElem?_eq_getElem hlt⟩
      obtain ⟨_, _, e1, _, hcl⟩ := HP.out.items
      cases e1
      obtain ⟨lb, lo, pv, rfl, _, j0, j1, hpa⟩ := hcl k _ hx
      have hpl := hpa.len
      obtain ⟨pa, pc, rfl⟩ := hpa.shape
      have HPA := Lib.hid hpa
      have i0 := cell_chg KW.out (fun e => e) j0
      have i1 := cell_chg KW.out (fun e => e) j1
      have J1 := Lib.hid j1
      have LSX := Lib.hid (HLS.out x (List.mem_of_getElem? hx))
      have R := Lib.hid (show p.items.take (k + 1) = p.items.take k ++ [x] from by rw [List.take_add_one, hx]; rfl)
      obtain ⟨cert, paths⟩ := x
      simp only at i0 i1 hpl HPA LSX R J1
      have p0 := cell_of (o := 0) O0R.out rfl
      have kyb := chg_alloc (fun _ => False) wr (.cells #[.int .i64 cert, .slice none 0 0] 43)
      have PI0 := Lib.hid (show PathIn wr (wr.alloc (.cells #[.int .i64 cert, .slice none 0 0] 43)) wr.heap.size cert (.slice none 0 0) [] (fun _ => False) from
          ⟨obj_alloc_new _ _, ⟨rfl, .inl ⟨rfl, rfl⟩⟩, fun z hz => (by cases hz), fun _ e => e.elim, kyb, Nat.le_refl _⟩)
      have i2 := cell_chg kyb (fun e => e) i1
      have p2 := cell_chg kyb (fun e => e) p0
      have HZX := Lib.hid (show wM.heap.size ≤ wr.heap.size from KC.out.size)
      clear kyb hcl hx hpa j0 j1
      obtain ⟨wx, hwx⟩ : ∃ wx, wx = wr := ⟨_, rfl⟩
      subst hwx
      go_wp2_with fail
      clear i0 i1 i2 p0 p2
      generalize wx.alloc (.cells #[.int .i64 cert, .slice none 0 0] 43) = wy at *
      go_loopw [32] (fun jv wr => ∃ (j : Nat) (pv : Value) (zs : List (BSteps × Value)) (Gz : Nat → Prop), j ≤ paths.length ∧ jv = .int .i64 j ∧ Hid (PathIn wx wr wx.heap.size cert pv zs Gz ∧ zs.map Prod.fst = paths.take j)) (fun jv _ => paths.length - (intOf jv).toNat)
      case atStart => exact ⟨0, _, [], _, by omega, rfl, Lib.hid ⟨PI0.out, rfl⟩⟩
      case round =>
        obtain ⟨j, pv, zs, Gz, hj, rfl, HJ⟩ := hrel
        obtain ⟨za, zc, ezv⟩ := own_shape HJ.out.1.row
        subst ezv
        have PI := Lib.hid HJ.out.1
        have ZM := Lib.hid HJ.out.2
        have hzl : zs.length ≤ 1000 := by
          have := congrArg List.length ZM.out
          rw [List.length_map, List.length_take] at this
          have := LSX.out.1
          omega
        clear HJ PI0
        by_cases hjl : j < paths.length
        · as_aux_lemma =>
          obtain ⟨l, hl⟩ : ∃ l, paths[j]? = some l := ⟨_, List.getElem?_eq_getElem hjl⟩
          have KWJ := Lib.hid (KW.out.trans PI.out.ch)
          obtain ⟨_, _, e1, _, hcl⟩ := HPA.out
          cases e1
          obtain ⟨lb2, lo2, pv2, rfl, _, q0', hst⟩ := hcl j l hl
          obtain ⟨qa, qc, rfl⟩ := hst.shape
          have HST := Lib.hid hst
          have hll : l.length ≤ 1000000 := LSX.out.2 l (List.mem_of_getElem? hl)
          have ZN := Lib.hid (fun v => show (zs ++ [(l, v)]).map Prod.fst = paths.take (j + 1) from by
            rw [List.map_append, ZM.out, List.take_add_one, hl]; rfl)
          have FACTS := Lib.hid (fun (W : World) (kW : Chg (fun _ => False) wr W) => And.intro (show W.cell? ⟨wx.heap.size, 1, none⟩ = some (.slice za zs.length zc) from cell_of (o := 1) (kW.obj (fun e => e) PI.out.box) rfl) (And.intro (show W.cell? ⟨w.heap.size, 0, none⟩ = some (.slice (some ⟨lb, lo, none⟩) p.items.length ic) from cell_of (o := 0) ((PI.out.ch.trans kW).obj (fun e => e) O0R.out) rfl)
            (And.intro (show W.cell? ⟨lb, lo + k * 2 + 1, none⟩ = some (.slice (some ⟨lb2, lo2, none⟩) paths.length pc) from cell_chg (KWJ.out.trans kW) (fun e => e) J1.out) (show W.cell? ⟨lb2, lo2 + j, none⟩ = some (.slice qa l.length qc) from cell_chg (KWJ.out.trans kW) (fun e => e) q0'))))
          have hzx : wx.heap.size ≤ wr.heap.size := PI.out.ch.size
          have Q0 := Lib.hid q0'
          have STF := Lib.hid (fun (W : World) (kW : Chg (fun _ => False) wr W) => (HST.out.chg (KWJ.out.trans kW) (fun _ _ e => e)))
          clear hcl hl hst q0'
          go_wp2_with fail
          refine wp_region_planL (N := 60) [.rd [0, 1, 3, 4, 5, 6, 7, 8, 9, 10, 11], .ef 2, .ef 12, .ef 13, .ef 14, .ef 15, .ef 16] 16 (fun W => W.cell? ⟨wx.heap.size, 1, none⟩ = some (.slice za zs.length zc) ∧ W.cell? ⟨w.heap.size, 0, none⟩ = some (.slice (some ⟨lb, lo, none⟩) p.items.length ic) ∧ W.cell? ⟨lb, lo + k * 2 + 1, none⟩ = some (.slice (some ⟨lb2, lo2, none⟩) paths.length pc) ∧ W.cell? ⟨lb2, lo2 + j, none⟩ = some (.slice qa l.length qc)) (by kernel_rfl) (by kernel_rfl) (by kernel_rfl) (by kernel_rfl) (by kernel_rfl) (Nat.le_of_ble_eq_true rfl) (FACTS.out _ (chg_drew _ _)) ?_
          refine planL_rd (A := ?A1) ?h1 ?h2
          case h1 =>
            rintro w' ⟨z0, z1, z2, z3⟩ K hK
            simp only [opsAt, List.filterMap_cons, List.filterMap_nil, List.getElem?_toArray, List.getElem?_cons_succ, List.getElem?_cons_zero]
            repeat still_step
            refine wpStill_nil ?_
            exact hK
          have kd := chg_drew (fun _ => False) wr
          have KD := Lib.hid kd
          have PD := Lib.hid (PI.out.chg kd)
          clear kd PI
          generalize wr.drew = wd at *
          refine planL_ef rfl ?_
          go_wp2_with fail
          have ke := chg_alloc (fun _ => False) wd (.cells #[] 45)
          have KE := Lib.hid (KD.out.trans ke)
          have PE := Lib.hid (PD.out.chg ke)
          have hbase : wx.heap.size ≤ wd.heap.size := PD.out.ch.size
          have OE := Lib.hid (own_empty wd wx.heap.size 45 2 hbase)
          have hze : wx.heap.size ≤ (wd.alloc (.cells #[] 45)).heap.size := PE.out.ch.size
          have fe := FACTS.out _ KE.out
          first | refine ⟨.inr fe, ?_⟩ | refine ⟨fe, ?_⟩
          have KEE := Lib.hid ke
          clear fe ke PE
          generalize hbe : wd.heap.size = be at *
          generalize wd.alloc (.cells #[] 45) = we at *
          have HBE := Lib.hid hbe
          clear hbe
          refine planL_ef rfl ?_
          refine wpList_pushS rfl (.tmp 37) (.tmp 46) 28 rfl 45 2 16 Tryz.underlying28 Tryz.elemStep wx.heap.size (.slice (some ⟨be, 0, none⟩) 0 0) 0 [] rfl OE.out qa l.length qc (scells l) rfl ?b1 ?b2 ?b3 ?b4 ?b5 ?b6 hze ?nx2
          case b1 => exact scells_length _
          case b2 => exact steps_src (STF.out _ KE.out).at_
          case b3 => intro e; exact HST.out.nil _ _ (by rw [e])
          case b4 => exact scells_one _
          case b5 => omega
          case b6 => unfold maxLen; omega
          intro va wa oa ga
          obtain ⟨aa, ac, rfl⟩ := own_shape oa
          try rw [Nat.zero_add, List.nil_append] at oa
          try rw [Nat.zero_add]
          have kwa : Chg (fun _ => False) wd wa := KEE.out.next (Chg.of_grown ga) (fun x hx e => by
            have e2 : be = x := by simpa [Value.ownBlock] using e
            have := HBE.out
            omega)
          have KA := Lib.hid (KD.out.trans kwa)
          have PA := Lib.hid (PD.out.chg kwa)
          have HOA := Lib.hid oa
          have fa := FACTS.out _ KA.out
          clear oa ga kwa OE KE KEE PD KD STF HBE
          go_wp2_with fail
          first | refine ⟨.inr fa, ?_⟩ | refine ⟨fa, ?_⟩
          clear fa
          refine planL_ef rfl ?_
          go_wp2_with fail
          have kb := chg_alloc (fun _ => False) wa (.cells #[.slice aa l.length ac] 28)
          have PB := Lib.hid (PA.out.chg kb)
          have KB := Lib.hid (KA.out.trans kb)
          have HOB := Lib.hid (own_chg HOA.out kb (fun _ _ e => e))
          have obn := obj_alloc_new wa (.cells #[.slice aa l.length ac] 28)
          have hzb : wx.heap.size ≤ (wa.alloc (.cells #[.slice aa l.length ac] 28)).heap.size := PB.out.ch.size
          have fb := FACTS.out _ KB.out
          first | refine ⟨.inr fb, ?_⟩ | refine ⟨fb, ?_⟩
          clear fb kb PA HOA
          refine planL_ef rfl ?_
          refine wpList_push rfl (.tmp 36) (.tmp 48) 41 rfl 28 1 24 Tryz.underlying41 Tryz.elemSteps wx.heap.size (.slice za zs.length zc) zs.length (zs.map Prod.snd) rfl PB.out.row wa.heap.size [.slice aa l.length ac] 28 (0, 0) rfl obn rfl (by intro u hu; simp at hu; subst hu; rfl) (by omega) (by unfold maxLen; omega) hzb ?_
          generalize wa.alloc (.cells #[.slice aa l.length ac] 28) = wb at *
          intro v9 w9 o9 g9
          obtain ⟨a9, c9, rfl⟩ := own_shape o9
          have PP := PB.out.push (l := l) (v := .slice aa l.length ac) HOB.out g9 o9
          have bx9 := PP.2
          have PN := Lib.hid PP.1
          have y4 := cell_of (o := 1) bx9 rfl
          have f4 := frozen_of (o := 1) bx9
          have K9 := Lib.hid (show Chg (fun _ => False) wx w9 from PB.out.ch.next (Chg.of_grown g9) (fun x hx e => by have := (PB.out.row.lt x e).1; omega))
          have kr9 : Chg (fun i => wx.heap.size ≤ i) wr w9 := (KB.out.mono (fun _ _ e => e.elim)).trans ((Chg.of_grown g9).mono (fun x _ e => (PB.out.row.lt x e).1))
          have fx0 := cell_of (o := 0) (K9.out.obj (fun e => e) O0R.out) rfl
          have fx1 : w9.cell? ⟨lb, lo + k * 2 + 1, none⟩ = some (.slice (some ⟨lb2, lo2, none⟩) paths.length pc) := cell_chg (KW.out.trans K9.out) (fun e => e) J1.out
          have fx2 : w9.cell? ⟨lb2, lo2 + j, none⟩ = some (.slice qa l.length qc) := cell_chg (KW.out.trans K9.out) (fun e => e) Q0.out
          clear PP bx9 o9 g9 PB HOB obn KB KA kr9 FACTS
          go_wp2_with fail
          first | refine ⟨.inr ⟨y4, fx0, fx1, fx2⟩, ?_⟩ | refine ⟨⟨y4, fx0, fx1, fx2⟩, ?_⟩
          refine planL_ef rfl ?_
          go_wp2_with fail
          first | refine ⟨.inr ⟨y4, fx0, fx1, fx2⟩, ?_⟩ | refine ⟨⟨y4, fx0, fx1, fx2⟩, ?_⟩
          refine planL_ef rfl ?_
          go_wp2_with fail
          first | refine ⟨.inl rfl, planL_nil ?_⟩ | (unfold PlanQ; refine planL_nil ?_)
          go_wp2
          go_roundw
          case rel => exact ⟨j + 1, _, _, _, by omega, by go_num, Lib.hid ⟨PN.out, ZN.out _⟩⟩
          case measure => simp [intOf]; omega
        · as_aux_lemma =>
          obtain rfl : j = paths.length := by omega
          rw [List.take_length] at ZM
          obtain ⟨pd1, pd2⟩ := PI.out.done
          rw [ZM.out] at pd1
          have KPW := Lib.hid (KP.out.chg PI.out.ch)
          obtain ⟨va, vc, eiv⟩ := own_shape KPW.out.row
          subst eiv
          have hxl : xs.length ≤ 1000 := by
            have := congrArg List.length XM.out
            rw [List.length_map, List.length_take] at this
            omega
          have ka := chg_alloc (fun _ => False) wr (.cells #[.int .i64 cert, .slice za zs.length zc] 43)
          have HPP := Lib.hid (And.intro (pd1.chg ka (fun _ _ e => e)) (fun k hk => show wM.heap.size ≤ k ∧ ∃ cs t, (wr.alloc (.cells #[.int .i64 cert, .slice za zs.length zc] 43)).heap[k]? = some (.cells cs t (0, 0)) ∧ (t = 28 ∨ t = 45) from by
            obtain ⟨h1, cs, t, q, ht⟩ := pd2 k hk
            exact ⟨Nat.le_trans HZX.out h1, cs, t, ka.obj (fun e => e) q, ht⟩))
          have KPA := Lib.hid (KPW.out.chg ka)
          have KCA := Lib.hid (KC.out.trans ((PI.out.ch.trans ka).mono (fun _ _ e => e.elim)))
          have b0 := cell_of (o := 0) KPW.out.box rfl
          have y0 := cell_of (o := 0) PI.out.box rfl
          have y1 := cell_of (o := 1) PI.out.box rfl
          have hwm : wM.heap.size ≤ wr.heap.size := Nat.le_trans HZX.out PI.out.ch.size
          clear pd1 pd2 ka KPW
          go_wp2_with (at_builtin; refine wpList_push rfl (.tmp 53) (.tmp 55) 27 rfl 43 2 32 Tryz.underlying27 Tryz.elemItem wM.heap.size (.slice va xs.length vc) xs.length (icells xs) rfl KPA.out.row _ [.int .i64 cert, .slice za zs.length zc] 43 (0, 0) rfl (obj_alloc_new _ _) rfl ?u1 ?u2 ?u3 ?u4 ?unx)
          case u1 => intro u hu; simp at hu; rcases hu with rfl | rfl <;> rfl
          case u2 => omega
          case u3 => unfold maxLen; omega
          case u4 => first | omega | (rw [World.size_alloc]; omega)
          intro v5 w5 o5 g5
          obtain ⟨a5, c5, rfl⟩ := own_shape o5
          have KPP := KPA.out.push (y := ⟨cert, paths⟩) HPP.out.1 HPP.out.2 g5 o5
          have KPN := Lib.hid KPP.1
          have bx5 := KPP.2.1
          have b5 := cell_of (o := 0) bx5 rfl
          have f5 := frozen_of (o := 0) bx5
          have KCN := Lib.hid (KCA.out.next KPP.2.2 (fun i hi e => by
            rcases e with e | e
            · exact e
            · have := (KPA.out.row.lt i e).1; omega))
          clear KPP bx5 o5 g5 HPP KPA KCA b0 y0 y1
          go_wp2
          go_roundw
          case rel => exact ⟨k + 1, _, _, _, by omega, by go_num, Lib.hid ⟨KPN.out, KCN.out, by rw [R.out, List.map_append, XM.out]; rfl⟩⟩
          case measure => simp [intOf]; omega
    · as_aux_lemma =>
      obtain rfl : k = p.items.length := by omega
      have p0 := cell_of (o := 0) O0R.out rfl
      have r0 := cell_of (o := 0) O1R.out rfl
      have r1 := cell_of (o := 1) O1R.out rfl
      have f0 := frozen_of (o := 0) O1R.out
      have f1 := frozen_of (o := 1) O1R.out
      have s0 := cell_of (o := 0) KP.out.box rfl
      have s1 := cell_of (o := 1) KP.out.box rfl
      obtain ⟨va, vc, eiv⟩ := own_shape KP.out.row
      subst eiv
      have hxl : xs.length = p.items.length := by
        have := congrArg List.length XM.out
        rwa [List.length_map, List.take_length] at this
      have HXL := Lib.hid hxl
      clear hxl
      go_wp2
      obtain ⟨W, hW⟩ : ∃ W, W = (wr.setCell ⟨w.heap.size + 1, 0, none⟩ (.slice va xs.length vc)).setCell ⟨w.heap.size + 1, 1, none⟩ (.slice a3 p.steps.length c3) := ⟨_, rfl⟩
      rw [← hW]
      obtain ⟨ob, kW⟩ := set2 O1R.out _ _ W hW
      clear hW
      have z0 : W.cell? ⟨w.heap.size + 1, 0, none⟩ = some (.slice va xs.length vc) := cell_of ob rfl
      have z1 : W.cell? ⟨w.heap.size + 1, 1, none⟩ = some (.slice a3 p.steps.length c3) := cell_of ob rfl
      refine bodyPost_ret (v := .agg #[.slice va xs.length vc, .slice a3 p.steps.length c3]) (by simp [results, Tryz.results16, go_sem, z0, z1]) rfl ?_
      have hwM := KWM.out.size
      have hz := HZ.out
      have kfin : Chg (fun _ => False) w W := KW.out.next kW (fun i hi e => by omega)
      have it := items_own KP.out.row KP.out.ent
      have tyG : ∀ k, (Gx k ∨ (Value.slice va xs.length vc).ownBlock = some k) → wM.heap.size ≤ k ∧ ∃ cs t, wr.heap[k]? = some (.cells cs t (0, 0)) ∧ t ≠ 30 := fun k hk => by
        rcases hk with hk | hk
        · obtain ⟨h1, cs, t, q, ht⟩ := KP.out.typ k hk
          exact ⟨h1, cs, t, q, by rcases ht with rfl | rfl <;> decide⟩
        · obtain ⟨cs, q⟩ := own_cells KP.out.row hk
          exact ⟨(KP.out.row.lt k hk).1, cs, _, q, by decide⟩
      have nott : ∀ k, (Gx k ∨ (Value.slice va xs.length vc).ownBlock = some k) → ¬ (k = w.heap.size + 1) := fun k hk e => by
        obtain ⟨_, cs, t, q, ht⟩ := tyG k hk
        exact ty_ne13 q O1R.out ht e
      have it2 := (it.chg kW nott).up (G' := fun k => w.heap.size ≤ k ∧ k < W.heap.size) (fun k hk => by
        obtain ⟨h1, cs, t, q, _⟩ := tyG k hk
        have h2 := lt_of_obj (kW.obj (nott k hk) q)
        exact ⟨by omega, h2⟩)
      rw [XM.out, List.take_length] at it2
      have hst := own_chg (own_chg HS3.out KC.out (fun k hk e => by have := O3LT.out k hk; omega)) kW (fun k hk e => by have := (HS3.out.lt k hk).1; omega)
      exact ⟨kfin, _, _, rfl, it2, own_base hst (by omega)⟩
end Go.Proofs.YtjifdfhibkipnaaGreat
