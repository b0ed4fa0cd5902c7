/-
  Layer 10: MatchTwice, walked.
-/
import Derived.Test.YtiidagdapckgjaaMTells
import Derived.Test.YtiidagdapckgjaaMTwicePure
namespace Go.Proofs.Ytiidagdapckgjaa
open Go.RowKit Go.Maps

/-- 'append(s, x..)' of elements that lie in a block of their own ('buildSlice' ahead of it). -/
theorem wpList_pushN {P : Program} {w : World} {ops : Array Oper} {rest : List Oper} {o : Oper} {a : Act} {Q : Exit → Act → World → Prop} (hgd : o.guard = none) (s x : Operand) (t : TypeId)
    (ho : o.op = .call { callee := .builtin .append, args := #[s, x], argTypes := #[t, t] }) (e : TypeId) (size bytes : Nat) (ht : P.underlying t = some (.slice e)) (hE : ElemInfo P e size bytes)
    (base : Nat) (v : Value) (n : Nat) (xs : List Value) (hs : a.eval s = v) (hown : w.ownsRow base e size v n xs)
    (g m : Nat) (news : List Value) (tt : TypeId) (fz : Nat × Nat) (hx : a.eval x = .slice (some ⟨g, 0, none⟩) m m) (hg : w.heap[g]? = some (.cells news.toArray tt fz)) (hl : news.length = m * size) (h1 : ∀ u ∈ news, u.oneCell' = true)
    (hbytes : (n + m) * bytes ≤ 140737488355328) (h63 : n + m ≤ maxLen) (hbase : base ≤ w.heap.size)
    (h : ∀ v' w', w'.ownsRow base e size v' (n + m) (xs ++ news) → w.grownBy w' v.ownBlock → wpList P ops Q rest (a.put o.dst v') w') : wpList P ops Q (o :: rest) a w := by
  obtain ⟨i, z, hi, hz, q1, q2, q3, q4⟩ := hE
  refine wpList_append_own w hgd s x t ho base e i z size bytes ht hi hz q1 q2 q3 q4 v n xs hs hown ⟨g, 0, none⟩ m m news hx hl ?_ h1 h63 hbytes hbase (fun v' w' h2 h3 _ => h v' w' h2 h3)
  intro j u hj
  rw [addr_add]
  exact cell_of hg (by simpa using hj)
theorem obj_alloc2 (w : World) (o p : Obj) : ((w.alloc o).alloc p).heap[w.heap.size + 1]? = some p := by
  have := obj_alloc_new (w.alloc o) p
  simpa using this
theorem lists_append (a b : List ByteArray) : lists (a ++ b) = lists a ++ lists b := by simp [lists]
set_option maxHeartbeats 1600000 in
set_option maxRecDepth 100000 in
theorem twice_law (w : World) (v : Value) (m s : ByteArray) (l : List ByteArray) (hm : m.size ≤ maxLen) (hs : s.size ≤ maxLen) (hv : WordsArg w v l) :
    Calls Try.prog 6 #[v, .string m, .string s] w fun e w' => e = .returned (.bool true) ∧ Chg (fun _ => False) w w' := by
  have hv0 := hv.at_
  obtain ⟨la, cap, rfl, hl0, hl3⟩ := hv0
  clear hl3
  have HV := Lib.hid hv
  have HS := Lib.hid hs
  unfold maxLen at hs hl0 hm
  clear hv
  go_enter Try.func6, Try.ntmps6
  go_wp2_with fail
  refine (awake_any w).mono ?_
  rintro e w1 ⟨rfl, k1⟩
  have K1 := Lib.hid k1
  have V1 := Lib.hid (HV.out.at_.chg k1 (fun _ _ e => e))
  have LA := Lib.hid (large_any w1 _ l s _ V1.out HS.out)
  clear k1
  by_cases hla : largeB l s = true
  · rw [hla] at LA
    clear hla
    go_wp2_with fail
    (with_reducible refine (LA.out).mono ?_)
    rintro e w1' ⟨rfl, rfl⟩
    go_wp2
    go_ret
    exact ⟨rfl, K1.out⟩
  have hla : largeB l s = false := by simpa using hla
  rw [hla] at LA
  obtain ⟨hl1, hs4, hx4⟩ := largeB_false hla
  have HX4 := Lib.hid hx4
  clear hla hx4
  by_cases hm4 : 400 < m.size
  · have g0 : decide (400 < (m.size : Int)) = true := by rw [decide_eq_true_eq]; omega
    go_wp2_with fail
    (with_reducible refine (LA.out).mono ?_)
    rintro e w1' ⟨rfl, rfl⟩
    go_wp2
    go_ret
    exact ⟨rfl, K1.out⟩
  have g0 : decide (400 < (m.size : Int)) = false := by rw [decide_eq_false_iff_not]; omega
  go_wp2_with fail
  (with_reducible refine (LA.out).mono ?_)
  rintro e w1' ⟨rfl, rfl⟩
  have NEW := Lib.hid (new_any w1 _ l (by obtain ⟨q1, q2, q3, q4, q5⟩ := V1.out; exact ⟨q1, q2, q3, q4, fun j x hj => by obtain ⟨z1, z2, z3, z4, z5⟩ := q5 j x hj; exact ⟨z1, z2, z3, Nat.lt_of_lt_of_le z4 K1.out.size, z5⟩⟩) (by omega) HX4.out)
  clear LA hm g0
  go_wp2_with fail
  (with_reducible refine (NEW.out).mono ?_)
  rintro e w2 ⟨B, cs, rfl, _, m2, k2⟩
  have ALL := Lib.hid (all_any w2 w1.heap.size B cs (lists l) s (by rw [lists_length]; exact m2) hs4 (by rw [lists_length]; omega))
  have K2 := Lib.hid (K1.out.trans k2)
  clear m2 k2 NEW V1
  go_wp2_with fail
  (with_reducible refine (ALL.out).mono ?_)
  rintro e w3 ⟨va, rfl, o3, k3⟩
  obtain ⟨aa, ca, rfl⟩ := own_shape o3
  have OA := Lib.hid o3
  have K3 := Lib.hid (K2.out.trans k3)
  have TR := Lib.hid (twice_rest (lists l) m.data.toList s.data.toList)
  have TC := Lib.hid (twice_cnt (lists l) m.data.toList s.data.toList)
  have TT := Lib.hid (twice_two (lists l) m.data.toList s.data.toList)
  rw [lists_length] at TR TC TT
  have hal : (hits (lists l) s.data.toList).length ≤ 100000 := by
    have := hitsTo_length (lists l) s.data.toList (alen s.data.toList)
    rw [lists_length] at this
    have h2 : alen s.data.toList ≤ 200 := by unfold alen; rw [size_list]; omega
    have h3 := Nat.mul_le_mul h2 hl1
    unfold hits
    omega
  generalize hits (lists l) s.data.toList = HA at *
  have O3 := Lib.hid (own_empty w3 w3.heap.size 23 1 (Nat.le_refl _))
  have C3 := Lib.hid (K3.out.alloc (.cells #[] 23))
  clear ALL o3 k3 K2
  go_wp2_with (at_builtin; refine wpList_words (w0 := w) rfl (.tmp 28) (.tmp 29) rfl w3.heap.size _ 0 [] rfl O3.out _ l rfl HV.out C3.out ?c1 ?c2 ?next)
  case c1 => omega
  case c2 => simp
  intro v4 w4 o4 g4
  have o4 : w4.ownsRow w3.heap.size 23 1 v4 l.length (wcells l) := by simpa using o4
  have k4 : Chg (fun _ => False) w3 w4 := (chg_alloc (fun _ => False) w3 (.cells #[] 23)).grown g4 (fun k hk hlt => by
    have := (O3.out.lt k hk).1
    omega)
  have O4 := Lib.hid o4
  have C4 := Lib.hid k4
  clear o4 k4 g4 O3 C3
  go_wp2_with (at_builtin; refine wpList_pushN rfl (.tmp 30) (.tmp 32) 22 rfl 23 1 16 Try.underlying22 Try.elemWord w3.heap.size _ _ _ rfl (O4.out.alloc _) _ 1 [.string m] 23 (0, 0) rfl (obj_alloc_new _ _) rfl ?d1 ?d2 ?d3 ?d4 ?dnext)
  case d1 => intro u hu; simp at hu; subst hu; rfl
  case d2 => omega
  case d3 => unfold maxLen; omega
  case d4 => have := C4.out.size; simp; omega
  intro v5 w5 o5 g5
  obtain ⟨LB, hLB⟩ : ∃ LB, LB = l ++ [m] := ⟨_, rfl⟩
  have o5 : w5.ownsRow w3.heap.size 23 1 v5 LB.length (wcells LB) := by subst hLB; simpa [wcells] using o5
  have hLn : LB.length ≤ 101 := by rw [hLB]; simp; omega
  have k5 : Chg (fun _ => False) w3 w5 := (C4.out.alloc (.cells #[.string m] 23)).grown g5 (fun k hk hlt => by
    have := (O4.out.lt k hk).1
    omega)
  have hx5 : ∀ x ∈ LB, x.size ≤ 400 := fun x hx => by
    rw [hLB, List.mem_append, List.mem_singleton] at hx
    rcases hx with hx | rfl
    · exact HX4.out x hx
    · omega
  have NB := Lib.hid (new_any w5 v5 LB (wordsAt_own o5 hx5) (by omega) hx5)
  obtain ⟨a5, c5, rfl⟩ := own_shape o5
  have K5 := Lib.hid (K3.out.trans k5)
  have C5 := Lib.hid k5
  have HLB := Lib.hid hLB
  clear o5 k5 g5 O4 C4 hx5 hLB
  go_wp2_with fail
  (with_reducible refine (NB.out).mono ?_)
  rintro e w6 ⟨B6, cs6, rfl, _, m6, k6⟩
  have AB := Lib.hid (all_any w6 w5.heap.size B6 cs6 (lists LB) s (by rw [lists_length]; exact m6) hs4 (by rw [lists_length]; omega))
  rw [show lists LB = lists l ++ [m.data.toList] by rw [HLB.out, lists_append]; rfl] at AB
  have hbl : (hits (lists l ++ [m.data.toList]) s.data.toList).length ≤ 100000 := by
    have := hitsTo_length (lists l ++ [m.data.toList]) s.data.toList (alen s.data.toList)
    rw [List.length_append, lists_length, List.length_singleton] at this
    have h2 : alen s.data.toList ≤ 200 := by unfold alen; rw [size_list]; omega
    have h3 := Nat.mul_le_mul h2 (show l.length + 1 ≤ 101 by omega)
    unfold hits
    omega
  generalize hits (lists l ++ [m.data.toList]) s.data.toList = HB at *
  have K6 := Lib.hid (K5.out.trans k6)
  have C6 := Lib.hid (C5.out.trans k6)
  clear m6 k6 NB K5 C5
  go_wp2_with fail
  (with_reducible refine (AB.out).mono ?_)
  rintro e w7 ⟨vb, rfl, o7, k7⟩
  obtain ⟨ab, cb, rfl⟩ := own_shape o7
  have OB := Lib.hid o7
  have K7 := Lib.hid (K6.out.trans k7)
  have OA7 := Lib.hid (own_chg OA.out (C6.out.trans k7) (fun _ _ e => e))
  have O7 := Lib.hid (own_empty w7 w7.heap.size 23 1 (Nat.le_refl _))
  have C7 := Lib.hid (K7.out.alloc (.cells #[] 23))
  clear AB o7 k7 K6 C6 OA K3
  go_wp2_with (at_builtin; refine wpList_words (w0 := w) rfl (.tmp 37) (.tmp 38) rfl w7.heap.size _ 0 [] rfl O7.out _ l rfl HV.out C7.out ?e1 ?e2 ?enext)
  case e1 => omega
  case e2 => simp
  intro v8 w8 o8 g8
  have o8 : w8.ownsRow w7.heap.size 23 1 v8 l.length (wcells l) := by simpa using o8
  have k8 : Chg (fun _ => False) w7 w8 := (chg_alloc (fun _ => False) w7 (.cells #[] 23)).grown g8 (fun k hk hlt => by
    have := (O7.out.lt k hk).1
    omega)
  have O8 := Lib.hid o8
  have C8 := Lib.hid k8
  clear o8 k8 g8 O7 C7
  go_wp2_with (at_builtin; refine wpList_pushN rfl (.tmp 39) (.tmp 42) 22 rfl 23 1 16 Try.underlying22 Try.elemWord w7.heap.size _ _ _ rfl (O8.out.alloc _) _ 2 [.string m, .string m] 23 (0, 0) rfl (obj_alloc_new _ _) rfl ?f1 ?f2 ?f3 ?f4 ?fnext)
  case f1 => intro u hu; simp at hu; subst hu; rfl
  case f2 => omega
  case f3 => unfold maxLen; omega
  case f4 => have := C8.out.size; simp; omega
  intro v9 w9 o9 g9
  obtain ⟨LC, hLC⟩ : ∃ LC, LC = l ++ [m, m] := ⟨_, rfl⟩
  have o9 : w9.ownsRow w7.heap.size 23 1 v9 LC.length (wcells LC) := by subst hLC; simpa [wcells] using o9
  have hLm : LC.length ≤ 102 := by rw [hLC]; simp; omega
  have k9 : Chg (fun _ => False) w7 w9 := (C8.out.alloc (.cells #[.string m, .string m] 23)).grown g9 (fun k hk hlt => by
    have := (O8.out.lt k hk).1
    omega)
  have hx9 : ∀ x ∈ LC, x.size ≤ 400 := fun x hx => by
    rw [hLC] at hx
    simp only [List.mem_append, List.mem_cons, List.not_mem_nil, or_false, or_self] at hx
    rcases hx with hx | rfl
    · exact HX4.out x hx
    · omega
  have NC := Lib.hid (new_any w9 v9 LC (wordsAt_own o9 hx9) (by omega) hx9)
  obtain ⟨a9, c9, rfl⟩ := own_shape o9
  have K9 := Lib.hid (K7.out.trans k9)
  have C9 := Lib.hid k9
  have HLC := Lib.hid hLC
  clear o9 k9 g9 O8 C8 hx9 K7 hLC
  go_wp2_with fail
  (with_reducible refine (NC.out).mono ?_)
  rintro e w10 ⟨B10, cs10, rfl, _, m10, k10⟩
  have AC := Lib.hid (all_any w10 w9.heap.size B10 cs10 (lists LC) s (by rw [lists_length]; exact m10) hs4 (by rw [lists_length]; omega))
  rw [show lists LC = lists l ++ [m.data.toList, m.data.toList] by rw [HLC.out, lists_append]; rfl] at AC
  generalize hits (lists l ++ [m.data.toList, m.data.toList]) s.data.toList = HL at *
  have K10 := Lib.hid (K9.out.trans k10)
  have C10 := Lib.hid (C9.out.trans k10)
  clear m10 k10 NC K9 C9
  go_wp2_with fail
  (with_reducible refine (AC.out).mono ?_)
  rintro e w11 ⟨vc, rfl, o11, k11⟩
  obtain ⟨ac, cc, rfl⟩ := own_shape o11
  have K11 := Lib.hid (K10.out.trans k11)
  have OB11 := Lib.hid (own_chg OB.out (C10.out.trans k11) (fun _ _ e => e))
  have OA11 := Lib.hid (own_chg OA7.out (C10.out.trans k11) (fun _ _ e => e))
  have O11 := Lib.hid (own_empty w11 w11.heap.size 32 2 (Nat.le_refl _))
  clear AC o11 k11 K10 C10 OB OA7
  go_wp2
  go_loopw [10, 11, 50] (fun rv nv iv wr => ∃ k : Nat, k ≤ HB.length ∧ iv = .int .i64 k ∧ nv = .int .i64 ((cnt l.length (HB.take k) : Nat) : Int) ∧ Hid (Chg (fun _ => False) w11 wr ∧ wr.ownsRow w11.heap.size 32 2 rv (restOf l.length (HB.take k)).length (hcells (restOf l.length (HB.take k))))) (fun _ _ iv _ => HB.length - (intOf iv).toNat)
  case atStart => exact ⟨0, by omega, rfl, rfl, Lib.hid ⟨chg_alloc _ _ _, O11.out⟩⟩
  case round =>
    obtain ⟨k, hk, rfl, rfl, HR⟩ := hrel
    by_cases hlt : k < HB.length
    · obtain ⟨hc, ho⟩ := HR.out
      obtain ⟨x1, x2, hx⟩ : ∃ x1 x2, HB[k]? = some (x1, x2) := ⟨_, _, List.getElem?_eq_getElem hlt⟩
      obtain ⟨g, rfl⟩ := own_some OB11.out (by omega)
      have c0 : wr.cell? ⟨g, k * 2, none⟩ = some (.int .i64 (x1 : Int)) := cell_chg hc (fun e => e) (by rw [OB11.out.cellAt (k * 2) (by omega), Nat.mul_comm]; exact (hcells_get HB k _ hx).1)
      have c1 : wr.cell? ⟨g, k * 2 + 1, none⟩ = some (.int .i64 (x2 : Int)) := cell_chg hc (fun e => e) (by rw [OB11.out.cellAt (k * 2 + 1) (by omega), Nat.mul_comm k 2]; exact (hcells_get HB k _ hx).2)
      have htk : HB.take (k + 1) = HB.take k ++ [(x1, x2)] := by
        rw [List.take_add_one, hx]; rfl
      have HTK := Lib.hid htk
      have hcb : cnt l.length (HB.take k) ≤ 100000 := by have := cnt_le l.length (HB.take k); have := List.length_take_le k HB; omega
      have hrb : (restOf l.length (HB.take k)).length ≤ 100000 := by have := rest_le l.length (HB.take k); have := List.length_take_le k HB; omega
      have HC := Lib.hid hc
      have HO := Lib.hid ho
      clear htk HR hx hc ho
      by_cases hxl : x2 = l.length
      · have t0 : ((x2 : Int) == (l.length : Int)) = true := by rw [beq_iff_eq]; omega
        have HCN2 := Lib.hid (show cnt l.length (HB.take (k + 1)) = cnt l.length (HB.take k) + 1 by rw [HTK.out, cnt_snoc]; simp [hxl])
        have HRS2 := Lib.hid (show restOf l.length (HB.take (k + 1)) = restOf l.length (HB.take k) by rw [HTK.out, rest_snoc]; simp [hxl])
        clear hxl HTK
        generalize cnt l.length (HB.take k) = N at *
        go_wp2
        go_roundw
        case rel => exact ⟨k + 1, by omega, by go_num, by rw [HCN2.out]; go_num, Lib.hid ⟨HC.out.alloc _, by rw [HRS2.out]; exact HO.out.alloc _⟩⟩
        case measure => simp [intOf]; omega
      · have t0 : ((x2 : Int) == (l.length : Int)) = false := by rw [beq_eq_false_iff_ne]; omega
        have HCN2 := Lib.hid (show cnt l.length (HB.take (k + 1)) = cnt l.length (HB.take k) by rw [HTK.out, cnt_snoc]; simp [hxl])
        have HRS2 := Lib.hid (show restOf l.length (HB.take (k + 1)) = restOf l.length (HB.take k) ++ [(x1, x2)] by rw [HTK.out, rest_snoc]; simp [hxl])
        clear hxl HTK
        generalize cnt l.length (HB.take k) = N at *
        generalize restOf l.length (HB.take k) = R at *
        go_wp2_with (at_builtin; refine wpList_push rfl (.tmp 61) (.tmp 63) 28 rfl 32 2 16 Try.underlying28 Try.elemHit w11.heap.size _ _ _ rfl ((HO.out.alloc _).alloc _) _ [.int .i64 (x1 : Int), .int .i64 (x2 : Int)] 32 (0, 0) rfl (obj_alloc2 _ _ _) rfl ?h1 ?h2 ?h3 ?h4 ?hnext)
        case h1 => intro u hu; simp at hu; rcases hu with rfl | rfl <;> rfl
        case h2 => omega
        case h3 => unfold maxLen; omega
        case h4 => have := HC.out.size; simp; omega
        intro v12 w12 o12 g12
        have k12 : Chg (fun _ => False) w11 w12 := ((HC.out.alloc _).alloc _).grown g12 (fun x hx hlt => by
          have := (HO.out.lt x hx).1
          omega)
        have O12 := Lib.hid o12
        have K12 := Lib.hid k12
        clear o12 k12 g12
        go_wp2
        go_roundw
        case rel => exact ⟨k + 1, by omega, by go_num, by rw [HCN2.out], Lib.hid ⟨K12.out, by rw [HRS2.out, List.length_append, hcells_append]; exact O12.out⟩⟩
        case measure => simp [intOf]; omega
    · obtain rfl : k = HB.length := by omega
      obtain ⟨hc, ho⟩ := HR.out
      rw [List.take_length] at ho ⊢
      rw [TR.out] at ho
      have SM := Lib.hid (same_true wr _ _ HA _ _ (hitsAt_own (own_chg OA11.out hc (fun _ _ e => e))) (hitsAt_own ho))
      have tc := TC.out
      have tt := TT.out
      have hcb : cnt l.length HB ≤ 100000 := by have := cnt_le l.length HB; omega
      generalize cnt l.length HB = N at *
      have t1 : ((HB.length : Int) == (HA.length : Int) + (N : Int)) = true := by rw [beq_iff_eq]; omega
      have t2 : ((HL.length : Int) == (HA.length : Int) + 2 * (N : Int)) = true := by rw [beq_iff_eq]; omega
      have KR := Lib.hid (K11.out.trans hc)
      obtain ⟨lr, cr, rfl⟩ := own_shape ho
      clear hc ho HR tc tt
      go_wp2_with fail
      (with_reducible refine (SM.out).mono ?_)
      rintro e w12 ⟨rfl, k12⟩
      have KZ := Lib.hid (KR.out.trans k12)
      clear k12
      go_wp2
      go_ret
      exact ⟨rfl, KZ.out⟩
end Go.Proofs.Ytiidagdapckgjaa
