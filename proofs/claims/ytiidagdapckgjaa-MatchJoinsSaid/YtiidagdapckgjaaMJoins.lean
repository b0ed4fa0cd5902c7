/-
  Layer 10: MatchJoins, walked.
-/
import Derived.Test.YtiidagdapckgjaaMStands
import Derived.Test.YtiidagdapckgjaaMJoinsPure
import Derived.Test.YtiidagdapckgjaaMJoinsMap
namespace Go.Proofs.Ytiidagdapckgjaa
open Go.RowKit Go.Maps

def shift (n : Nat) (h : Nat × Nat) : Nat × Nat := (h.1 + n, h.2)
/-- What is left in the set behind k rounds of the second loop. -/
def LeftAt (n k : Nat) (HB HS : List (Nat × Nat)) (h : Nat × Nat) : Prop := h ∈ HB ∧ ∀ g ∈ HS.take k, h ≠ shift n g
theorem leftAt_zero (n : Nat) (HB HS : List (Nat × Nat)) : LeftAt n 0 HB HS = (fun h => h ∈ HB) := by
  funext h; unfold LeftAt; simp
theorem hits_fit (l : List ByteArray) (x : ByteArray) (hx : x.size ≤ 400) {a i : Nat} (h : (a, i) ∈ hits (lists l) x.data.toList) : a ≤ 200 ∧ i < l.length := by
  obtain ⟨h1, h2, _⟩ := hitsTo_mem.1 h
  rw [lists_length] at h2
  unfold alen at h1
  rw [size_list] at h1
  exact ⟨by omega, h2⟩
theorem leftAt_succ {n k : Nat} {HB HS : List (Nat × Nat)} {x : Nat × Nat} (hx : HS[k]? = some x) : (fun h => LeftAt n k HB HS h ∧ h ≠ shift n x) = LeftAt n (k + 1) HB HS := by
  funext h
  unfold LeftAt
  rw [List.take_add_one, hx]
  apply propext
  constructor
  · rintro ⟨⟨h1, h2⟩, h3⟩
    refine ⟨h1, fun g hg => ?_⟩
    rw [List.mem_append] at hg
    rcases hg with hg | hg
    · exact h2 g hg
    · simp at hg; subst hg; exact h3
  · rintro ⟨h1, h2⟩
    exact ⟨⟨h1, fun g hg => h2 g (List.mem_append_left _ hg)⟩, h2 x (List.mem_append_right _ (by simp))⟩
theorem largeW {l : List ByteArray} {s : ByteArray} (h : 100 < l.length ∨ 400 < s.size ∨ ∃ x ∈ l, 400 < x.size) : largeB l s = true := by
  unfold largeB
  simp only [Bool.or_eq_true, decide_eq_true_eq, List.any_eq_true]
  rcases h with h | h | h
  · exact .inl (.inl h)
  · exact .inl (.inr h)
  · exact .inr h
set_option maxHeartbeats 1600000 in
set_option maxRecDepth 100000 in
theorem joins_law (w : World) (v : Value) (p s q : ByteArray) (l : List ByteArray) (hp : p.size ≤ 140737488355328) (hs : s.size ≤ 140737488355328) (hq : q.size ≤ 140737488355328) (hv : WordsArg w v l) :
    Calls Try.prog 5 #[v, .string p, .string s, .string q] w fun e w' => e = .returned (.bool true) ∧ Chg (fun _ => False) w w' := by
  have hv0 := hv.at_
  obtain ⟨la, cap, rfl, hl0, hl3⟩ := hv0
  have HL3 := Lib.hid hl3
  clear hl3
  have HV := Lib.hid hv.at_
  unfold maxLen at hl0
  clear hv
  have hps : (p ++ s).size = p.size + s.size := ByteArray.size_append
  have hpq : (p ++ s ++ q).size = p.size + s.size + q.size := by rw [ByteArray.size_append, hps]
  have g1 : p.size + s.size ≤ 9223372036854775807 := by omega
  have g2 : p.size + s.size + q.size ≤ 9223372036854775807 := by omega
  go_enter Try.func5, Try.ntmps5
  go_wp2_with fail
  refine (awake_any w).mono ?_
  rintro e w1 ⟨rfl, k1⟩
  have K1 := Lib.hid k1
  have V1 := Lib.hid (words_up HV.out k1)
  have LA := Lib.hid (large_any w1 _ l (p ++ s ++ q) _ V1.out (by unfold maxLen; rw [hpq]; omega))
  have HPQ := Lib.hid hpq
  clear k1
  by_cases hla : largeB l (p ++ s ++ q) = true
  · rw [hla] at LA
    clear hla
    go_wp2_with fail
    (with_reducible refine (LA.out).mono ?_)
    rintro e w1' ⟨rfl, rfl⟩
    go_wp2
    go_ret
    exact ⟨rfl, K1.out⟩
  have hla : largeB l (p ++ s ++ q) = false := by simpa using hla
  rw [hla] at LA
  obtain ⟨hl1, hs4, hx4⟩ := largeB_false hla
  have HX4 := Lib.hid hx4
  rw [hpq] at hs4
  clear hla hx4
  by_cases ho1 : p.size % 2 = 1
  · have t1 : ((p.size : Int) % 2 == 1) = true := by rw [beq_iff_eq]; omega
    go_wp2_with fail
    (with_reducible refine (LA.out).mono ?_)
    rintro e w1' ⟨rfl, rfl⟩
    go_wp2
    go_ret
    exact ⟨rfl, K1.out⟩
  have t1 : ((p.size : Int) % 2 == 1) = false := by rw [beq_eq_false_iff_ne]; omega
  by_cases ho2 : s.size % 2 = 1
  · have t2 : ((s.size : Int) % 2 == 1) = true := by rw [beq_iff_eq]; omega
    go_wp2_with fail
    (with_reducible refine (LA.out).mono ?_)
    rintro e w1' ⟨rfl, rfl⟩
    go_wp2
    go_ret
    exact ⟨rfl, K1.out⟩
  have t2 : ((s.size : Int) % 2 == 1) = false := by rw [beq_eq_false_iff_ne]; omega
  go_wp2_with fail
  (with_reducible refine (LA.out).mono ?_)
  rintro e w1' ⟨rfl, rfl⟩
  have NEW := Lib.hid (new_any w1 _ l V1.out (by omega) HX4.out)
  clear LA
  go_wp2_with fail
  (with_reducible refine (NEW.out).mono ?_)
  rintro e w2 ⟨B, cs, rfl, _, m2, k2⟩
  have K2 := Lib.hid (K1.out.trans k2)
  have M2 := Lib.hid m2
  have hmm := @run_makeMap Try.prog
  have MA := Lib.hid (MapAt.made Try.prog 32 4 w2)
  rw [setF_none] at MA
  have C2 := Lib.hid (chg_alloc (fun _ => False) w2 (.map #[] 0))
  have ALL := Lib.hid (all_any (w2.alloc (.map #[] 0)) w1.heap.size B cs (lists l) (p ++ s ++ q) (by rw [lists_length]; exact M2.out.chg C2.out) (by rw [HPQ.out]; omega) (by rw [lists_length]; omega))
  clear m2 k2 NEW V1
  go_wp2_with fail
  (with_reducible refine (ALL.out).mono ?_)
  rintro e w3 ⟨va, rfl, o3, k3⟩
  obtain ⟨aa, ca, rfl⟩ := own_shape o3
  have OA := Lib.hid o3
  have C3 := Lib.hid (C2.out.trans k3)
  have MB3 := Lib.hid (MA.out.chg k3 (fun e => e))
  have hal := hits_le l (p ++ s ++ q) (by omega) (by rw [HPQ.out]; omega)
  have FB := Lib.hid (fun a i => @hits_fit l (p ++ s ++ q) (by rw [HPQ.out]; omega) a i)
  have FX := FB
  have PL : p.data.toList.length = 2 * (p.size / 2) := by rw [size_list]; omega
  have SL : s.data.toList.length % 2 = 0 := by rw [size_list]; omega
  have CAT : (p ++ s ++ q).data.toList = p.data.toList ++ s.data.toList ++ q.data.toList := by simp
  have UP := Lib.hid (fun a i => joins_up (lists l) p.data.toList s.data.toList q.data.toList (p.size / 2) a i PL)
  have DN := Lib.hid (fun x i => joins_down (lists l) p.data.toList s.data.toList q.data.toList (p.size / 2) x i PL SL)
  rw [← CAT] at UP DN
  generalize hits (lists l) (p ++ s ++ q).data.toList = HB at *
  clear ALL o3 k3 PL SL CAT MA C2
  go_wp2
  go_loopw [50] (fun iv wr => ∃ k : Nat, k ≤ HB.length ∧ iv = .int .i64 k ∧ Hid (Chg (fun _ => False) w2 wr ∧ Chg (· = w2.heap.size) w3 wr ∧ HSet wr w2.heap.size k (fun h => h ∈ HB.take k))) (fun iv _ => HB.length - (intOf iv).toNat)
  case atStart => exact ⟨0, by omega, rfl, Lib.hid ⟨C3.out, Chg.refl _ _, by simpa using MB3.out⟩⟩
  case round =>
    obtain ⟨k, hk, rfl, HR⟩ := hrel
    by_cases hlt : k < HB.length
    · obtain ⟨hc, hc3, hm⟩ := HR.out
      obtain ⟨x1, x2, hx⟩ : ∃ x1 x2, HB[k]? = some (x1, x2) := ⟨_, _, List.getElem?_eq_getElem hlt⟩
      obtain ⟨f1, f2⟩ := FB.out x1 x2 (List.mem_of_getElem? hx)
      have hfit : Fits (x1, x2) := ⟨by omega, by show x2 ≤ 1000000; omega⟩
      obtain ⟨g, rfl⟩ := own_some OA.out (by omega)
      have hgne : g ≠ w2.heap.size := by
        have := (OA.out.lt g rfl).1
        simp at this
        omega
      have c0 : wr.cell? ⟨g, k * 2, none⟩ = some (.int .i64 (x1 : Int)) := cell_chg hc3 hgne (by rw [OA.out.cellAt (k * 2) (by omega), Nat.mul_comm]; exact (hcells_get HB k _ hx).1)
      have c1 : wr.cell? ⟨g, k * 2 + 1, none⟩ = some (.int .i64 (x2 : Int)) := cell_chg hc3 hgne (by rw [OA.out.cellAt (k * 2 + 1) (by omega), Nat.mul_comm k 2]; exact (hcells_get HB k _ hx).2)
      have HM := Lib.hid (hm.chg (chg_alloc (fun _ => False) wr (.cells #[.int .i64 (x1 : Int), .int .i64 (x2 : Int)] 32)) (fun e => e))
      have HC := Lib.hid (hc.alloc (.cells #[.int .i64 (x1 : Int), .int .i64 (x2 : Int)] 32))
      have HC3 := Lib.hid (hc3.alloc (.cells #[.int .i64 (x1 : Int), .int .i64 (x2 : Int)] 32))
      have HX := Lib.hid hx
      have HF := Lib.hid hfit
      clear HR hm hc hc3 hx hfit
      go_wp2_with (at_mapUpdate; refine wpList_put rfl (.tmp 54) (.tmp 55) (.const (.bool true)) 38 rfl 32 4 Try.hitKeyed Try.underlying38 w2.heap.size k _ rfl HM.out ?c1 (hitVal (x1, x2)) (.bool true) (hitKey (x1, x2)) rfl rfl (hitKey_of _ HF.out) (.lit (.bool true)) [] (plainElem_bool Try.underlying4 true) ?next)
      case c1 => unfold maxLen; omega
      intro w5 m5 k5
      rw [setF_put _ _ HF.out] at m5
      have M5 := Lib.hid m5
      have K5 := Lib.hid (HC.out.next k5 (fun i hi e => by omega))
      have K53 := Lib.hid (HC3.out.next k5 (fun i hi e => e))
      clear m5 k5
      go_wp2
      go_roundw
      case rel => exact ⟨k + 1, by omega, by go_num, Lib.hid ⟨K5.out, K53.out, by
        have e : (fun h => h ∈ HB.take (k + 1)) = (fun h => h ∈ HB.take k ∨ h = (x1, x2)) := by
          funext h
          rw [List.take_add_one, HX.out]
          simp
        rw [e]; exact M5.out⟩⟩
      case measure => simp [intOf]; omega
    · obtain rfl : k = HB.length := by omega
      obtain ⟨hc, hc3, hm⟩ := HR.out
      rw [List.take_length] at hm
      have HM := Lib.hid hm
      have CO := Lib.hid hc
      have AL := Lib.hid (all_any wr w1.heap.size B cs (lists l) s (by rw [lists_length]; exact M2.out.chg hc) (by omega) (by rw [lists_length]; omega))
      have hsl := hits_le l s (by omega) (by omega)
      have FS := Lib.hid (fun a i => @hits_fit l s (by omega) a i)
      have NE := Lib.hid (fun j k x y => @hits_ne (lists l) s.data.toList j k x y)
      obtain ⟨n, hn⟩ : ∃ n : Nat, (p.size : Int) / 2 = (n : Int) := ⟨p.size / 2, by omega⟩
      have HN2 := Lib.hid (show p.size / 2 = n by omega)
      have hnb : n ≤ 200 := by omega
      rw [HN2.out] at UP DN
      generalize hits (lists l) s.data.toList = HS at *
      clear HR hc hc3 hm OA FB MB3
      obtain ⟨wo, rfl⟩ : ∃ wo : World, wo = wr := ⟨_, rfl⟩
      go_wp2_with fail
      (with_reducible refine (AL.out).mono ?_)
      rintro e w6 ⟨vb, rfl, o6, k6⟩
      obtain ⟨ab, cb, rfl⟩ := own_shape o6
      have OB := Lib.hid o6
      have C6 := Lib.hid (CO.out.trans k6)
      have M6 := Lib.hid (HM.out.chg k6 (fun e => e))
      have hbm : w2.heap.size < wo.heap.size := HM.out.lt
      clear o6 k6 AL HM CO
      go_wp2
      go_loopw [64] (fun iv wr => ∃ k : Nat, k ≤ HS.length ∧ iv = .int .i64 k ∧ Hid (Chg (fun _ => False) w2 wr ∧ Chg (· = w2.heap.size) w6 wr ∧ HSet wr w2.heap.size HB.length (LeftAt n k HB HS))) (fun iv _ => HS.length - (intOf iv).toNat)
      case atStart => exact ⟨0, by omega, rfl, Lib.hid ⟨C6.out, Chg.refl _ _, by rw [leftAt_zero]; exact M6.out⟩⟩
      case round =>
        obtain ⟨k, hk, rfl, HR⟩ := hrel
        by_cases hlt : k < HS.length
        · obtain ⟨hc, hc3, hm⟩ := HR.out
          obtain ⟨x1, x2, hx⟩ : ∃ x1 x2, HS[k]? = some (x1, x2) := ⟨_, _, List.getElem?_eq_getElem hlt⟩
          obtain ⟨f1, f2⟩ := FS.out x1 x2 (List.mem_of_getElem? hx)
          have hfit : Fits (x1 + n, x2) := ⟨by show x1 + n ≤ 1000000; omega, by show x2 ≤ 1000000; omega⟩
          have hin : LeftAt n k HB HS (x1 + n, x2) := ⟨UP.out x1 x2 (List.mem_of_getElem? hx), fun g hg e => by
            obtain ⟨j, hj⟩ := List.getElem?_of_mem hg
            rw [List.getElem?_take] at hj
            split at hj
            · rename_i hjk
              refine NE.out j k g (x1, x2) hjk hj hx ?_
              obtain ⟨y1, y2⟩ := g
              unfold shift at e
              simp only [Prod.mk.injEq] at e
              rw [Prod.mk.injEq]
              omega
            · cases hj⟩
          obtain ⟨g, rfl⟩ := own_some OB.out (by omega)
          have hgne : g ≠ w2.heap.size := by
            have := (OB.out.lt g rfl).1
            omega
          have c0 : wr.cell? ⟨g, k * 2, none⟩ = some (.int .i64 (x1 : Int)) := cell_chg hc3 hgne (by rw [OB.out.cellAt (k * 2) (by omega), Nat.mul_comm]; exact (hcells_get HS k _ hx).1)
          have c1 : wr.cell? ⟨g, k * 2 + 1, none⟩ = some (.int .i64 (x2 : Int)) := cell_chg hc3 hgne (by rw [OB.out.cellAt (k * 2 + 1) (by omega), Nat.mul_comm k 2]; exact (hcells_get HS k _ hx).2)
          have HM := Lib.hid (hm.chg (chg_alloc (fun _ => False) wr (.cells #[.int .i64 (x1 : Int), .int .i64 (x2 : Int)] 32)) (fun e => e))
          have HC := Lib.hid (hc.alloc (.cells #[.int .i64 (x1 : Int), .int .i64 (x2 : Int)] 32))
          have HC3 := Lib.hid (hc3.alloc (.cells #[.int .i64 (x1 : Int), .int .i64 (x2 : Int)] 32))
          have KEY := Lib.hid (show keyOf Try.prog 32 (.agg #[.int .i64 ((x1 : Int) + (n : Int)), .int .i64 (x2 : Int)]) = some (hitKey (x1 + n, x2)) by
            have := hitKey_of (x1 + n, x2) hfit
            unfold hitVal at this
            simp only [Int.natCast_add] at this
            exact this)
          have LK := Lib.hid (setF_in hfit hin)
          have HX := Lib.hid hx
          have HF := Lib.hid hfit
          clear HR hm hc hc3 hx hfit hin
          go_wp2_with (at_lookup; refine wpList_look_bool rfl (.tmp 68) (.tmp 75) 38 rfl 32 4 Try.hitKeyed Try.underlying38 Try.underlying4 (Try.zeroBool _) w2.heap.size HB.length _ rfl HM.out _ (hitKey (x1 + n, x2)) rfl KEY.out true ?d1 ?dnext)
          case d1 => rw [LK.out]; rfl
          obtain ⟨w7, hdel, m7, k7⟩ := HM.out.del Try.hitKeyed Try.underlying38 KEY.out 0
          rw [setF_del _ _ HF.out] at m7
          have M7 := Lib.hid m7
          have K7 := Lib.hid (HC.out.next k7 (fun i hi e => by omega))
          have K73 := Lib.hid (HC3.out.next k7 (fun i hi e => e))
          clear m7 k7
          go_wp2
          rw [hdel]
          simp only [Result.andThen_ok]
          go_wp2
          go_roundw
          case rel => exact ⟨k + 1, by omega, by go_num, Lib.hid ⟨K7.out, K73.out, by rw [← leftAt_succ HX.out]; exact M7.out⟩⟩
          case measure => simp [intOf]; omega
        · obtain rfl : k = HS.length := by omega
          obtain ⟨hc, hc3, D, hown, hD⟩ := HR.out
          have HIN := Lib.hid (show ∀ kl, Maps.has D kl = true → ∃ g, Fits g ∧ LeftAt n HS.length HB HS g ∧ kl = hitKey g from fun kl h => setF_some (by rw [← (hD kl).1]; exact h))
          have GET := Lib.hid (fun (x1 x2 : Nat) (h : LeftAt n HS.length HB HS (x1, x2)) => show ∃ x lb lo, l[x2]? = some x ∧ la = some ⟨lb, lo, none⟩ ∧ w2.cell? ⟨lb, lo + x2, none⟩ = some (.string x) ∧ x.size ≤ 400 ∧ (n ≤ x1 → ¬ x1 + x.size / 2 ≤ n + s.size / 2) from by
            obtain ⟨h1, h2⟩ := h
            obtain ⟨f1, f2⟩ := FX.out x1 x2 h1
            have hg : l[x2]? = some l[x2] := List.getElem?_eq_getElem f2
            obtain ⟨lb, lo, q1, q2, q3, q4⟩ := HL3.out x2 _ hg
            refine ⟨_, lb, lo, hg, q1, cell_chg K2.out (fun e => e) q3, HX4.out _ (List.mem_of_getElem? hg), fun g1 g2 => ?_⟩
            have hd := DN.out x1 x2 h1 g1 (by rw [lists_get hg, size_list, size_list]; exact g2)
            rw [List.take_length] at h2
            exact h2 _ hd (by unfold shift; show (x1, x2) = (x1 - n + n, x2); rw [Nat.sub_add_cancel g1]))
          have HC := Lib.hid hc
          have HOWN := Lib.hid hown
          clear HR hc hc3 hown hD UP DN NE
          go_wp2_with (at_range; refine wpList_range_own _ rfl (.tmp 87) 38 rfl 32 4 Try.hitKeyed Try.underlying38 _ w2.heap.size HB.length D rfl HOWN.out ?fnext)
          intro w8 r8 g8 z8
          obtain ⟨wo2, rfl⟩ : ∃ wo2 : World, wo2 = wr := ⟨_, rfl⟩
          have R8 := Lib.hid r8
          have K8 := Lib.hid (HC.out.trans ((Chg.of_grown g8).mono (fun _ _ e => by cases e)))
          have hw28 : w2.heap.size ≤ wo2.heap.size := HC.out.size
          clear r8 g8 z8
          go_wp2
          go_loopw [89] (fun _ wr => Hid (Chg (fun _ => False) w2 wr ∧ ∃ left cnt, wr.ranges Try.prog 32 (plainElem Try.prog 4) w2.heap.size wo2.heap.size HB.length D left cnt ∧ ∀ kl, left kl = true → Maps.has D kl = true)) (fun _ wr => wr.rangeLeft w2.heap.size wo2.heap.size)
          case atStart => exact Lib.hid ⟨K8.out, _, _, R8.out, fun _ h => h⟩
          case round =>
            obtain ⟨hc, left, cnt, hrg, hle⟩ := hrel.out
            have HRG := Lib.hid hrg
            have HC9 := Lib.hid hc
            have HLE := Lib.hid hle
            clear hrel hc hrg hle
            go_wp2_with (at_next; refine wpList_next_hits rfl (.tmp 88) rfl w2.heap.size wo2.heap.size HB.length D left cnt (LeftAt n HS.length HB HS) rfl HRG.out (fun kl h => HIN.out kl (HLE.out kl h)) ?gdone ?gmore)
            · go_ret
              exact ⟨rfl, K2.out.trans HC9.out⟩
            · intro x1 x2 ev w9 cnt' left' hfit hS r9 l9 c9 g9 hen
              obtain ⟨x, lb, lo, hg, rfl, cx, hxs, hno⟩ := GET.out x1 x2 hS
              have hx2 : x2 < l.length := (List.getElem?_eq_some_iff.1 hg).1
              have k9 : Chg (fun _ => False) w2 w9 := HC9.out.grown g9 (fun k hk hlt => by cases hk; omega)
              have R9 := Lib.hid (r9.alloc (.cells #[.int .i64 (x1 : Int), .int .i64 (x2 : Int)] 32))
              have K9 := Lib.hid (k9.alloc (.cells #[.int .i64 (x1 : Int), .int .i64 (x2 : Int)] 32))
              have d0 := cell_chg K9.out (fun e => e) cx
              have L9 := Lib.hid (show ∀ kl, left' kl = true → Maps.has D kl = true from fun kl h => HLE.out kl (l9 kl h))
              have ML := Lib.hid (show wr.rangeLeft w2.heap.size wo2.heap.size = cnt from HRG.out.left_eq)
              have C9 := Lib.hid c9
              have hxb1 : x1 ≤ 1000000 := hfit.1
              clear hg cx r9 k9 g9 l9 c9 hS hfit HRG HLE HIN GET
              by_cases hx : n ≤ x1
              · have hz := hno hx
                have u1 : decide ((n : Int) ≤ (x1 : Int)) = true := by rw [decide_eq_true_eq]; omega
                have u2 : decide (n ≤ x1) = true := by rw [decide_eq_true_eq]; omega
                have u3 : decide ((x1 : Int) + (x.size : Int) / 2 ≤ (n : Int) + (s.size : Int) / 2) = false := by rw [decide_eq_false_iff_not]; omega
                clear hno hz hx
                go_wp2
                go_roundw
                case rel => exact Lib.hid ⟨K9.out, left', cnt', R9.out, L9.out⟩
                case measure => rw [ML.out, R9.out.left_eq]; exact C9.out
              · have u1 : decide ((n : Int) ≤ (x1 : Int)) = false := by rw [decide_eq_false_iff_not]; omega
                have u2 : decide (n ≤ x1) = false := by rw [decide_eq_false_iff_not]; omega
                clear hno hx
                go_wp2
                go_roundw
                case rel => exact Lib.hid ⟨K9.out, left', cnt', R9.out, L9.out⟩
                case measure => rw [ML.out, R9.out.left_eq]; exact C9.out
end Go.Proofs.Ytiidagdapckgjaa
