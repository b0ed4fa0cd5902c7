/-
  Package set: Same; Of of two words.
-/
import Derived.Test.YthdfplafihmejaaGreatCCert1
import Derived.Test.YthdfplafihmejaaGreatCMap
import Derived.Test.YthdfplafihmejaaGreatSAt
namespace Go.Proofs.YthdfplafihmejaaGreat
open Go.RowKit Go.Maps

/-! set.Within, set.Same -/
theorem wordK : Keyed Tryz.prog 57 := string_keyed Tryz.underlying57
theorem wordKey (s : ByteArray) (h : s.size ≤ maxLen) : keyOf Tryz.prog 57 (.string s) = some (.string s.data.toList) := WideMaps.keyOf_string_mk Tryz.underlying57 h
open Classical in
/-- What a set's map says. -/
noncomputable def inF (l : List ByteArray) : Lit → Option Value := fun kl => if ∃ s ∈ l, kl = .string s.data.toList then some (.agg #[]) else none
theorem bytes_ext {a b : ByteArray} (h : a.data.toList = b.data.toList) : a = b := by
 cases a; cases b
 simp only [ByteArray.mk.injEq]
 exact Array.toList_inj.1 h
theorem inF_isSome (l : List ByteArray) (s : ByteArray) : (inF l (.string s.data.toList)).isSome = hasB l s := by
 unfold inF hasB
 by_cases h : s ∈ l
 ·rw [if_pos ⟨s, h, rfl⟩, decide_eq_true h]; rfl
 ·rw [if_neg, decide_eq_false h]
  ·rfl
  ·rintro ⟨u, hu, e⟩
   rw [Lit.string.injEq] at e
   exact h (by rw [bytes_ext e]; exact hu)
theorem inF_nil : (fun _ => none) = inF [] := by
 funext kl
 unfold inF
 rw [if_neg]
 rintro ⟨u, hu, _⟩
 cases hu
theorem inF_put (l : List ByteArray) (s : ByteArray) : putV (inF l) (.string s.data.toList) (some (.agg #[])) = inF (l ++ [s]) := by
 funext kl
 by_cases h : kl = .string s.data.toList
 ·subst h
  rw [putV_same]
  unfold inF
  rw [if_pos ⟨s, by simp, rfl⟩]
 ·rw [putV_other _ h]
  unfold inF
  by_cases q : ∃ u ∈ l, kl = .string u.data.toList
  ·obtain ⟨u, hu, e⟩ := q
   rw [if_pos ⟨u, hu, e⟩, if_pos ⟨u, List.mem_append_left _ hu, e⟩]
  ·rw [if_neg q, if_neg]
   rintro ⟨u, hu, e⟩
   rcases List.mem_append.1 hu with hu | hu
   ·exact q ⟨u, hu, e⟩
   ·rw [List.mem_singleton] at hu
    subst hu
    exact h e
theorem makeSet (w : World) (n : Int) : (Instr.makeMap 201 (some (.int .i64 n))).run Tryz.prog w = .ok (.map (some w.heap.size)) (w.alloc (.map #[] 0)) := by
 have h : (asInt (.int .i64 n)).run Tryz.prog w = .ok n w := rfl
 simp [Instr.makeMap, run_underlying Tryz.underlying201, h]
set_option maxHeartbeats 1000000 in
set_option maxRecDepth 100000 in
theorem within_any (w : World) (av bv : Value) (a b : List ByteArray) (G G' : Nat → Prop) (ha : WordsAt w av G a) (hb : WordsAt w bv G' b) (hlb : b.length ≤ 1000) :
  Calls Tryz.prog 116 #[av, bv] w fun e w' => e = .returned (.bool (a.all (hasB b))) ∧ Chg (fun _ => False) w w' := by
 have HA := Lib.hid ha
 have HB := Lib.hid hb
 obtain ⟨aa, acap, rfl, hl0, _⟩ := ha
 obtain ⟨ba, bcap, rfl, hl1, _⟩ := hb
 unfold maxLen at hl0 hl1
 go_enter Tryz.func116, Tryz.ntmps116
 have M0 := Lib.hid (show MapV Tryz.prog 57 (w.alloc (.map #[] 0)) w.heap.size 0 (inF []) from by rw [← inF_nil]; exact MapV.made _ _ _)
 have hws : w.heap.size ≤ w.heap.size := Nat.le_refl _
 have HZU := Lib.hid (fun w : World => (show (zeroValue 202).run Tryz.prog w = .ok (.agg #[]) w from by kernel_rfl))
 have hmk := makeSet w (b.length : Int)
 go_wp2
 go_loopw [17] (fun iv wr => ∃ k : Nat, k ≤ b.length ∧ iv = .int .i64 k ∧ Hid ((∃ m, m ≤ k ∧ MapV Tryz.prog 57 wr w.heap.size m (inF (b.take k))) ∧ Chg (fun _ => False) w wr)) (fun iv _ => b.length - (intOf iv).toNat)
 case atStart => exact ⟨0, by omega, rfl, Lib.hid ⟨⟨0, Nat.le_refl _, M0.out⟩, chg_alloc _ _ _⟩⟩
 case round =>
  obtain ⟨k, hk, rfl, HI⟩ := hrel
  clear M0
  by_cases hlt : k < b.length
  ·obtain ⟨x, hx⟩ : ∃ x, b[k]? = some x := ⟨_, List.getElem?_eq_getElem hlt⟩
   obtain ⟨_, _, e1, _, hcl⟩ := HB.out.chg HI.out.2 (fun _ _ e => e)
   cases e1
   obtain ⟨lb, lo, rfl, _, c0, hxs⟩ := hcl k x hx
   obtain ⟨⟨m, hmk, hM⟩, hC⟩ := HI.out
   have MV := Lib.hid hM
   have KC := Lib.hid hC
   have TK := Lib.hid (show b.take (k + 1) = b.take k ++ [x] by rw [List.take_add_one, hx]; rfl)
   have KEY := Lib.hid (wordKey x hxs)
   clear hcl hx hM hC HI hxs
   go_wp2_with (at_mapUpdate; refine wpList_putV rfl (.tmp 21) (.tmp 22) (.tmp 23) 201 rfl 57 202 wordK Tryz.underlying201 w.heap.size m _ rfl MV.out ?c1 (.string x) (.agg #[]) (.string x.data.toList) rfl rfl KEY.out ?next)
   case c1 => unfold maxLen; omega
   case next =>
    intro w3 m3 hm3 _ _ hm3k hc3
    rw [inF_put, ← TK.out] at hm3
    have K3 := Lib.hid (KC.out.next hc3 (fun x hx e => by omega))
    have M3 := Lib.hid (show ∃ m, m ≤ k + 1 ∧ MapV Tryz.prog 57 w3 w.heap.size m (inF (b.take (k + 1))) from ⟨_, by omega, hm3⟩)
    clear hm3 hc3 MV KC c0
    go_wp2
    go_roundw
    case rel => exact ⟨k + 1, by omega, by go_num, Lib.hid ⟨M3.out, K3.out⟩⟩
    case measure => simp [intOf]; omega
  ·obtain rfl : k = b.length := by omega
   obtain ⟨⟨m, _, hM⟩, hC⟩ := HI.out
   rw [List.take_length] at hM
   have M2 := Lib.hid hM
   have K2 := Lib.hid hC
   clear HI hM hC
   generalize wr = wo at *
   go_wp2
   go_loopw [27] (fun iv wr => ∃ k : Nat, k ≤ a.length ∧ iv = .int .i64 k ∧ Hid ((a.take k).all (hasB b) = true ∧ Chg (fun _ => False) wo wr)) (fun iv _ => a.length - (intOf iv).toNat)
   case atStart => exact ⟨0, by omega, rfl, Lib.hid ⟨rfl, Chg.refl _ _⟩⟩
   case round =>
    obtain ⟨k, hk, rfl, HI⟩ := hrel
    by_cases hlt : k < a.length
    ·obtain ⟨x, hx⟩ : ∃ x, a[k]? = some x := ⟨_, List.getElem?_eq_getElem hlt⟩
     obtain ⟨_, _, e1, _, hcl⟩ := HA.out.chg (K2.out.trans HI.out.2) (fun _ _ e => e)
     cases e1
     obtain ⟨lb, lo, rfl, _, c0, hxs⟩ := hcl k x hx
     have MV := Lib.hid (M2.out.chg HI.out.2 (fun e => e))
     have KI := Lib.hid HI.out.2
     have AL := Lib.hid (show (a.take (k + 1)).all (hasB b) = hasB b x from by
      rw [List.take_add_one, hx, List.all_append, HI.out.1]; simp)
     have AF := Lib.hid (show hasB b x = false → a.all (hasB b) = false from fun h => by
      rw [List.all_eq_false]
      exact ⟨x, List.mem_of_getElem? hx, by rw [h]; simp⟩)
     have KEY := Lib.hid (wordKey x hxs)
     have IS := Lib.hid (inF_isSome b x)
     have VAL := Lib.hid (show (inF b (.string x.data.toList)).getD (.agg #[]) = .agg #[] from by
      unfold inF
      split <;> rfl)
     clear hcl hx HI hxs
     cases hh : hasB b x with
     | true =>
      rw [hh] at AL IS
      clear AF hh
      go_wp2_with (at_lookup; refine wpList_lookV_ok rfl (.tmp 32) (.tmp 33) 201 rfl 57 202 wordK Tryz.underlying201 (.agg #[]) (HZU.out _) w.heap.size m _ rfl MV.out (.string x) (.string x.data.toList) rfl KEY.out (.agg #[]) true VAL.out IS.out ?n2a)
      go_roundw
      case rel => exact ⟨k + 1, by omega, by go_num, Lib.hid ⟨AL.out, (KI.out.alloc (.cells #[] 202))⟩⟩
      case measure => simp [intOf]; omega
     | false =>
      rw [hh] at IS
      have R := Lib.hid (AF.out hh)
      clear AF hh AL
      go_wp2_with (at_lookup; refine wpList_lookV_ok rfl (.tmp 32) (.tmp 33) 201 rfl 57 202 wordK Tryz.underlying201 (.agg #[]) (HZU.out _) w.heap.size m _ rfl MV.out (.string x) (.string x.data.toList) rfl KEY.out (.agg #[]) false VAL.out IS.out ?n2b)
      go_ret
      exact ⟨by rw [R.out]; rfl, K2.out.trans (KI.out.alloc (.cells #[] 202))⟩
    ·obtain rfl : k = a.length := by omega
     have R := Lib.hid (show a.all (hasB b) = true from by have := HI.out.1; rwa [List.take_length] at this)
     have KI := Lib.hid HI.out.2
     clear HI
     go_wp2
     go_ret
     exact ⟨by rw [R.out]; rfl, K2.out.trans KI.out⟩
theorem sameS_any (w : World) (av bv : Value) (a b : List ByteArray) (G G' : Nat → Prop) (ha : WordsAt w av G a) (hb : WordsAt w bv G' b) (hla : a.length ≤ 1000) (hlb : b.length ≤ 1000) :
  Calls Tryz.prog 133 #[av, bv] w fun e w' => e = .returned (.bool (a.all (hasB b) && b.all (hasB a))) ∧ Chg (fun _ => False) w w' := by
 have W1 := Lib.hid (within_any w av bv a b G G' ha hb hlb)
 have W2 := Lib.hid (fun w1 (k : Chg (fun _ => False) w w1) => within_any w1 bv av b a G' G (hb.chg k (fun _ _ e => e)) (ha.chg k (fun _ _ e => e)) hla)
 obtain ⟨aa, acap, rfl, hl0, _⟩ := ha
 obtain ⟨ba, bcap, rfl, hl1, _⟩ := hb
 generalize a.all (hasB b) = r at *
 generalize b.all (hasB a) = q at *
 go_enter Tryz.func133, Tryz.ntmps133
 cases r with
 | false =>
  go_wp2_with fail
  (with_reducible refine (W1.out).mono ?_)
  rintro e w2 ⟨rfl, k2⟩
  go_wp2
  go_ret
  exact ⟨rfl, k2⟩
 | true =>
  go_wp2_with fail
  (with_reducible refine (W1.out).mono ?_)
  rintro e w2 ⟨rfl, k2⟩
  have W3 := Lib.hid (W2.out w2 k2)
  have K2 := Lib.hid k2
  clear k2 W1 W2
  go_wp2_with fail
  (with_reducible refine (W3.out).mono ?_)
  rintro e w3 ⟨rfl, k3⟩
  go_wp2
  go_ret
  exact ⟨rfl, K2.out.trans k3⟩
end Go.Proofs.YthdfplafihmejaaGreat
