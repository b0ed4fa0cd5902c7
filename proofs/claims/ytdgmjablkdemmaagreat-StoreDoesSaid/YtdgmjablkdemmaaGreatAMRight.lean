/-
  The reference's Right and And.
-/
import Derived.Test.YtdgmjablkdemmaaGreatSOrd
import Derived.Test.YtdgmjablkdemmaaGreatSSetB
import Derived.Test.YtdgmjablkdemmaaGreatSAt
import Derived.Test.YtdgmjablkdemmaaGreatTree
import Derived.Deep.DeepCutAuto
import Derived.Deep.CutBlock
namespace Go.Proofs.YtdgmjablkdemmaaGreat
open Go.RowKit Go.Maps

def lenV : Value → Nat
  | .slice _ n _ => n
  | _ => 0
theorem getLast_at {l : List ByteArray} {n : Nat} (h : l.length = n + 1) : ∃ z, l[n]? = some z ∧ l.getLast? = some z := by
  refine ⟨l[n], List.getElem?_eq_getElem (by omega), ?_⟩
  rw [List.getLast?_eq_getElem?]
  have e : l.length - 1 = n := by omega
  rw [e]
  exact List.getElem?_eq_getElem (by omega)
theorem wcells_get {l : List ByteArray} {j : Nat} {x : ByteArray} (h : l[j]? = some x) : (wcells l)[j]? = some (.string x) := by
  unfold wcells
  rw [List.getElem?_map, h]; rfl
theorem wcells_snoc (l : List ByteArray) (x : ByteArray) : wcells (l ++ [x]) = wcells l ++ [.string x] := by
  unfold wcells
  rw [List.map_append]; rfl
set_option maxHeartbeats 4000000 in
set_option maxRecDepth 100000 in
theorem right_any (w : World) (v : Value) (G : Nat → Prop) (l : List ByteArray) (hv : WordsAt w v G l) (hl : l.length ≤ 1000) :
    Calls Tryz.prog 91 #[v] w fun e w' => ∃ va out, e = .returned va ∧ w'.ownsRow w.heap.size 23 1 va out.length (wcells out) ∧ RightI l out ∧ (∀ x ∈ l, x ∈ out) ∧ Chg (fun _ => False) w w' := by
  have LS := Lib.hid (fun w a b (ha : a.size ≤ maxLen) => rless_any w a b ha)
  have HV := Lib.hid hv
  obtain ⟨la, lcap, rfl, hl0, _⟩ := hv
  unfold maxLen at hl0
  have hws : w.heap.size ≤ w.heap.size := Nat.le_refl _
  go_enter Tryz.func91, Tryz.ntmps91
  go_wp2
  go_loopw [3] (fun ov wr => ∃ out : List ByteArray, Hid (RightI l out ∧ wr.ownsRow w.heap.size 23 1 ov out.length (wcells out) ∧ Chg (fun _ => False) w wr)) (fun ov _ => l.length - lenV ov)
  case atStart => exact ⟨[], Lib.hid ⟨rightI_nil l, own_empty _ _ _ _ hws, chg_alloc _ _ _⟩⟩
  case round =>
    obtain ⟨out, HI⟩ := hrel
    obtain ⟨oa, oc, rfl⟩ := own_shape HI.out.2.1
    have hle := HI.out.1.le
    have KW := Lib.hid HI.out.2.2
    have OW := Lib.hid HI.out.2.1
    have RI := Lib.hid HI.out.1
    have hsz : w.heap.size ≤ wr.heap.size := KW.out.size
    clear HI
    generalize wr = wo at *
    go_wp2
    go_loopw [4, 5, 6] (fun bv fv iv wl => ∃ k : Nat, k ≤ l.length ∧ iv = .int .i64 k ∧ fv = .bool (nextB out.getLast? (l.take k)).isSome ∧ bv = .string ((nextB out.getLast? (l.take k)).getD ⟨#[]⟩) ∧ Hid (Chg (fun _ => False) wo wl)) (fun _ _ iv _ => l.length - (intOf iv).toNat)
    case atStart => exact ⟨0, by omega, rfl, rfl, rfl, Lib.hid (Chg.refl _ _)⟩
    case round =>
      obtain ⟨k, hk, rfl, rfl, rfl, HJ⟩ := hrel
      by_cases hlt : k < l.length
      · obtain ⟨x, hx⟩ : ∃ x, l[k]? = some x := ⟨_, List.getElem?_eq_getElem hlt⟩
        obtain ⟨_, _, e1, _, hcl⟩ := HV.out.chg (KW.out.trans HJ.out) (fun _ _ e => e)
        cases e1
        obtain ⟨lb, lo, rfl, _, c0, hxs⟩ := hcl k x hx
        have NT := Lib.hid (nextB_take (last := out.getLast?) hx)
        have CX := Lib.hid (fun w1 (q : Chg (fun _ => False) wr w1) => cell_chg q (fun e => e) c0)
        have XS := Lib.hid hxs
        clear hcl hx hxs
        generalize nextB out.getLast? (l.take k) = best at *
        go_upto_region 7 with fail
        go_cut [7] (fun av wc => av = .bool (afterB out.getLast? x) ∧ Chg (fun _ => False) wr wc)
        case first =>
          rename_i J K' hJ hK
          by_cases h0 : out.length = 0
          · have e0 : out = [] := List.length_eq_zero_iff.1 h0
            subst e0
            clear h0 NT
            go_wp2_with fail
            refine wp_region_plan (N := 55) [.rd [0, 1, 2, 3, 4, 5, 6, 7, 8, 9, 10, 11, 12, 13], .ef 14, .rd [15, 16]] (fun w' => w'.cell? ⟨lb, lo + k, none⟩ = some (.string x)) (by kernel_rfl) (by kernel_rfl) (by kernel_rfl) (by kernel_rfl) (Nat.le_of_ble_eq_true rfl) c0 ?_
            refine plan_rd (A := ?A1) ?h1 ?h2
            case h1 =>
              rintro w' z0 K hK
              simp only [opsAt, List.filterMap_cons, List.filterMap_nil, List.getElem?_toArray, List.getElem?_cons_succ, List.getElem?_cons_zero]
              refine WS.out ?_
              repeat (refine ws_step (fun K hK => ?_); go_simp; refine hK _ ?_; clear hK K)
              refine ws_nil ?_
              exact hK
            have D := Lib.hid (chg_drew (fun _ => False) wr)
            have e0 := cell_chg D.out (fun e => e) c0
            generalize wr.drew = wd at *
            refine plan_ef rfl ?_
            refine wpList_skip (by simp [Region.wanted, yielded, undef]) ?_
            go_wp2_with fail
            refine ⟨e0, ?_⟩
            refine plan_rd (A := ?A2) ?h3 ?h4
            case h3 =>
              rintro w' z0 K hK
              simp only [opsAt, List.filterMap_cons, List.filterMap_nil, List.getElem?_toArray, List.getElem?_cons_succ, List.getElem?_cons_zero]
              refine WS.out ?_
              repeat (refine ws_step (fun K hK => ?_); go_simp; refine hK _ ?_; clear hK K)
              refine ws_nil ?_
              exact hK
            refine plan_nil ?_
            go_wp2
            go_meet
            case rel => exact ⟨rfl, D.out⟩
          · obtain ⟨n, hn⟩ : ∃ n, out.length = n + 1 := ⟨out.length - 1, by omega⟩
            obtain ⟨z, hz, hzl⟩ := getLast_at hn
            have HZL := Lib.hid hzl
            have hzs : z.size ≤ maxLen := by
              obtain ⟨j, hj⟩ := List.mem_iff_getElem?.1 (RI.out.sub z (List.mem_of_getElem? hz))
              obtain ⟨_, _, _, _, hcl⟩ := HV.out
              obtain ⟨_, _, _, _, _, q⟩ := hcl j z hj
              exact q
            obtain ⟨_, _, e1, _, hcz⟩ := own_get OW.out
            cases e1
            obtain ⟨gz, rfl, _, d0⟩ := hcz n _ (wcells_get hz)
            have y0 := cell_chg HJ.out (fun e => e) d0
            have g0 : ((out.length : Int) == 0) = false := beq_eq_false_iff_ne.2 (by omega)
            have g1 : IntKind.i64.wrap ((out.length : Int) - 1) = (n : Int) := by rw [IntKind.wrap_i64]; omega
            have hn2 : n < out.length := by omega
            have LZ := Lib.hid (fun w => LS.out w z x hzs)
            clear hcz hz hzl NT d0 h0 hzs hn
            go_wp2_with fail
            refine wp_region_plan (N := 55) [.rd [0, 1, 2, 3, 4, 5, 6, 7, 8, 9, 10, 11, 12, 13], .ef 14, .rd [15, 16]] (fun w' => w'.cell? ⟨lb, lo + k, none⟩ = some (.string x) ∧ w'.cell? ⟨gz, n, none⟩ = some (.string z)) (by kernel_rfl) (by kernel_rfl) (by kernel_rfl) (by kernel_rfl) (Nat.le_of_ble_eq_true rfl) ⟨c0, y0⟩ ?_
            refine plan_rd (A := ?A3) ?h5 ?h6
            case h5 =>
              rintro w' ⟨z0, z1⟩ K hK
              simp only [opsAt, List.filterMap_cons, List.filterMap_nil, List.getElem?_toArray, List.getElem?_cons_succ, List.getElem?_cons_zero]
              refine WS.out ?_
              repeat (refine ws_step (fun K hK => ?_); go_simp; refine hK _ ?_; clear hK K)
              refine ws_nil ?_
              exact hK
            have D := Lib.hid (chg_drew (fun _ => False) wr)
            have e0 := cell_chg D.out (fun e => e) c0
            have e1 := cell_chg D.out (fun e => e) y0
            generalize wr.drew = wd at *
            refine plan_ef rfl ?_
            go_wp2_with fail
            (with_reducible refine (LZ.out _).mono ?_)
            rintro e w4 ⟨rfl, k4⟩
            have K4 := Lib.hid (D.out.trans k4.chg)
            have kc4 : Chg (fun _ => False) wd w4 := k4.chg
            have f0 := cell_chg kc4 (fun e => e) e0
            have f1 := cell_chg kc4 (fun e => e) e1
            clear k4 kc4 e0 e1
            go_wp2_with fail
            refine ⟨⟨f0, f1⟩, ?_⟩
            refine plan_rd (A := ?A4) ?h7 ?h8
            case h7 =>
              rintro w' ⟨z0, z1⟩ K hK
              simp only [opsAt, List.filterMap_cons, List.filterMap_nil, List.getElem?_toArray, List.getElem?_cons_succ, List.getElem?_cons_zero]
              refine WS.out ?_
              repeat (refine ws_step (fun K hK => ?_); go_simp; refine hK _ ?_; clear hK K)
              refine ws_nil ?_
              exact hK
            refine plan_nil ?_
            go_wp2
            go_meet
            case rel => exact ⟨by rw [HZL.out]; rfl, K4.out⟩
        case rest =>
          obtain ⟨rfl, kc⟩ := hcut
          have c1 := CX.out wc kc
          have KC := Lib.hid (HJ.out.trans kc)
          clear c0 CX kc HJ
          have NP : nextB out.getLast? (l.take (k + 1)) = if (afterB out.getLast? x && betterB best x) = true then some x else best := NT.out
          cases ha : afterB out.getLast? x with
          | false =>
            rw [ha, Bool.false_and, if_neg (by simp)] at NP
            have NP := Lib.hid NP
            clear ha NT
            go_wp2
            go_roundw
            case rel => exact ⟨k + 1, by omega, by go_num, by rw [NP.out], by rw [NP.out], KC⟩
            case measure => simp [intOf]; omega
          | true =>
            rw [ha, Bool.true_and] at NP
            clear ha NT
            cases best with
            | none =>
              have NP := Lib.hid (show nextB out.getLast? (l.take (k + 1)) = some x from NP)
              go_wp2
              go_roundw
              case rel => exact ⟨k + 1, by omega, by go_num, by rw [NP.out]; rfl, by rw [NP.out]; rfl, KC⟩
              case measure => simp [intOf]; omega
            | some y =>
              have LY := Lib.hid (LS.out wc x y XS.out)
              have NP := Lib.hid (show nextB out.getLast? (l.take (k + 1)) = if lessB x.data.toList y.data.toList = true then some x else some y from NP)
              generalize lessB x.data.toList y.data.toList = r at *
              simp only [Option.getD_some, Option.isSome_some]
              go_wp2_with fail
              (with_reducible refine (LY.out).mono ?_)
              rintro e w5 ⟨rfl, k5⟩
              have c2 := cell_chg (show Chg (fun _ => False) wc w5 from k5.chg) (fun e => e) c1
              have K5 := Lib.hid (KC.out.trans k5.chg)
              clear k5 LY KC c1
              cases r
              all_goals
                go_wp2
                go_roundw
                case rel => exact ⟨k + 1, by omega, by go_num, by rw [NP.out]; rfl, by rw [NP.out]; rfl, K5⟩
                case measure => simp [intOf]; omega
      · obtain rfl : k = l.length := by omega
        rw [List.take_length]
        cases hn : nextB out.getLast? l with
        | none =>
          have DN := Lib.hid (RI.out.done hn)
          clear hn
          go_wp2
          go_ret
          exact ⟨_, out, rfl, own_chg OW.out HJ.out (fun _ _ e => e), RI.out, DN.out, KW.out.trans HJ.out⟩
        | some y =>
          have hmore := RI.out.more hn
          have RN := Lib.hid (RI.out.next hn)
          have OJ := Lib.hid (own_chg OW.out HJ.out (fun _ _ e => e))
          have KJ := Lib.hid (KW.out.trans HJ.out)
          have hszr : w.heap.size ≤ wr.heap.size := KJ.out.size
          clear hn RI OW KW HJ
          simp only [Option.getD_some, Option.isSome_some]
          go_wp2_with (at_builtin; refine wpList_pushF rfl (.tmp 51) (.tmp 53) 32 rfl 23 1 16 Tryz.underlying32 Tryz.elemWord w.heap.size _ out.length (wcells out) rfl ?a1 wr.heap.size [.string y] 23 (0, 0) rfl ?a2 rfl ?a3 ?a4 ?a5 ?a6 ?a7)
          case a1 => exact own_chg OJ.out (chg_alloc (fun _ => False) _ _) (fun _ _ e => e)
          case a2 => exact obj_alloc_new _ _
          case a3 => intro u hu; simp at hu; subst hu; rfl
          case a4 => omega
          case a5 => unfold maxLen; omega
          case a6 => simp; omega
          intro v6 w6 o6 g6 _
          have O6 := Lib.hid (show w6.ownsRow w.heap.size 23 1 v6 (out ++ [y]).length (wcells (out ++ [y])) from by rw [wcells_snoc, List.length_append]; exact o6)
          have K6 := Lib.hid ((KJ.out.alloc (.cells #[.string y] 23)).next (Chg.of_grown g6) (fun x hx e => by have := (OJ.out.lt x e).1; omega))
          clear o6 g6 OJ KJ
          obtain ⟨a6, c6, rfl⟩ := own_shape O6.out
          go_wp2
          go_roundw
          case rel => exact ⟨out ++ [y], Lib.hid ⟨RN.out, O6.out, K6.out⟩⟩
          case measure => simp [lenV]; omega
end Go.Proofs.YtdgmjablkdemmaaGreat
