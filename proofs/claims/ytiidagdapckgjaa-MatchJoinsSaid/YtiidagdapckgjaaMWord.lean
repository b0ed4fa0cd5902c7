/-
  Package word: Len, odd, At, May, each by a contract over the plain model.
-/
import Derived.Test.YtiidagdapckgjaaBase2
import Derived.Test.YtiidagdapckgjaaMPure
namespace Go.Proofs.Ytiidagdapckgjaa
open Go.RowKit

theorem wlen_any (w : World) (s : ByteArray) (hs : s.size ≤ maxLen) :
    Calls Try.prog 21 #[.string s] w fun e w' => e = .returned (.int .i64 (alen s.data.toList : Nat)) ∧ w = w' := by
  unfold maxLen at hs
  have HE := Lib.hid (show alen s.data.toList = s.size / 2 by unfold alen; rw [size_list])
  go_enter Try.func21, Try.ntmps21
  go_wp2
  go_ret
  refine ⟨?_, rfl⟩
  rw [HE.out]
  show Ending.returned (.int .i64 ((s.size : Int) / 2)) = _
  congr 2
theorem wodd_yes (w : World) (s : ByteArray) (hs : s.size ≤ maxLen) (h : s.size % 2 ≠ 0) :
    Calls Try.prog 23 #[.string s] w fun e w' => e = .returned (.bool true) ∧ w = w' := by
  unfold maxLen at hs
  have h1 : ((s.size : Int) % 2 != 0) = true := by rw [bne_iff_ne]; omega
  clear h
  go_enter Try.func23, Try.ntmps23
  go_wp2
  go_ret
  exact ⟨rfl, rfl⟩
theorem wodd_no (w : World) (s : ByteArray) (hs : s.size ≤ maxLen) (h : s.size % 2 = 0) :
    Calls Try.prog 23 #[.string s] w fun e w' => e = .returned (.bool false) ∧ w = w' := by
  unfold maxLen at hs
  have h1 : ((s.size : Int) % 2 != 0) = false := by rw [bne_eq_false_iff_eq]; omega
  clear h
  go_enter Try.func23, Try.ntmps23
  go_wp2
  go_ret
  exact ⟨rfl, rfl⟩
theorem or_u16 (a c : Nat) (ha : a < 256) (hc : c < 256) : bits BinOp.or IntKind.u16 ((a * 256 : Nat) : Int) (c : Int) = ((a * 256 + c : Nat) : Int) := by
  have h1 : (BitVec.ofInt 16 ((a * 256 : Nat) : Int)).toNat = a * 256 := by
    rw [BitVec.ofInt_natCast, BitVec.toNat_ofNat]; exact Nat.mod_eq_of_lt (by omega)
  have h2 : (BitVec.ofInt 16 (c : Int)).toNat = c := by
    rw [BitVec.ofInt_natCast, BitVec.toNat_ofNat]; exact Nat.mod_eq_of_lt (by omega)
  show IntKind.u16.wrap ((BitVec.ofInt 16 ((a * 256 : Nat) : Int) ||| BitVec.ofInt 16 (c : Int)).toNat : Int) = _
  rw [BitVec.toNat_or, h1, h2, nat_join 8 (a * 256) c (by simp) (by omega)]
  show ((a * 256 + c : Nat) : Int) % 65536 = _
  omega
theorem or_u16w (x y : Nat) (hx : x < 256) (hy : y < 256) : bits BinOp.or IntKind.u16 (IntKind.u16.wrap (IntKind.u16.wrap (x : Int) * 256)) (IntKind.u16.wrap (y : Int)) = ((x * 256 + y : Nat) : Int) := by
  have e1 : IntKind.u16.wrap (x : Int) = (x : Int) := by show (x : Int) % 65536 = _; omega
  have e2 : IntKind.u16.wrap (y : Int) = (y : Int) := by show (y : Int) % 65536 = _; omega
  have e3 : IntKind.u16.wrap ((x : Int) * 256) = ((x * 256 : Nat) : Int) := by show ((x : Int) * 256) % 65536 = _; omega
  rw [e1, e2, e3, or_u16 x y hx hy]
theorem wat_in (w : World) (s : ByteArray) (k : Nat) (hs : s.size ≤ maxLen) (hk : k < alen s.data.toList) :
    Calls Try.prog 24 #[.string s, .int .i64 k] w fun e w' => e = .returned (.int .u16 (atomAt s.data.toList k : Nat)) ∧ Chg (fun _ => False) w w' := by
  have LEN := Lib.hid (wlen_any w s hs)
  unfold maxLen at hs
  have h2 : 2 * k + 1 < s.size := by unfold alen at hk; rw [size_list] at hk; omega
  obtain ⟨x, hx, qx⟩ : ∃ x, x < 256 ∧ (s[2 * k]'(by omega)).toNat = x := ⟨_, UInt8.toNat_lt _, rfl⟩
  obtain ⟨y, hy, qy⟩ : ∃ y, y < 256 ∧ (s[2 * k + 1]'(by omega)).toNat = y := ⟨_, UInt8.toNat_lt _, rfl⟩
  have HA := Lib.hid (show atomAt s.data.toList k = x * 256 + y by
    have hsl := size_list s
    unfold atomAt
    rw [List.getD_eq_getElem?_getD, List.getElem?_eq_getElem (by omega), List.getD_eq_getElem?_getD, List.getElem?_eq_getElem (by omega), ← qx, ← qy]; rfl)
  generalize alen s.data.toList = n at *
  generalize atomAt s.data.toList k = av at *
  have g0 : decide ((k : Int) < 0) = false := by rw [decide_eq_false_iff_not]; omega
  have g1 : decide (n ≤ k) = false := by rw [decide_eq_false_iff_not]; omega
  have a1 : IntKind.i64.wrap (2 * (k : Int)) = 2 * (k : Int) := by rw [IntKind.wrap_i64]; omega
  have a2 : IntKind.i64.wrap (2 * (k : Int) + 1) = 2 * (k : Int) + 1 := by rw [IntKind.wrap_i64]; omega
  have b1 : 0 ≤ 2 * (k : Int) := by omega
  have b2 : 2 * (k : Int) < (s.size : Int) := by omega
  have b3 : 0 ≤ 2 * (k : Int) + 1 := by omega
  have b4 : 2 * (k : Int) + 1 < (s.size : Int) := by omega
  have t1 : (2 * (k : Int)).toNat = 2 * k := by omega
  have t2 : (2 * (k : Int) + 1).toNat = 2 * k + 1 := by omega
  go_enter Try.func24, Try.ntmps24
  go_wp2_with fail
  refine (LEN.out).mono ?_
  rintro e w' ⟨rfl, rfl⟩
  go_wp2
  refine wp_still_drew (by kernel_rfl) (by kernel_rfl) ?_
  repeat still_step
  refine wpStill_nil ?_
  go_wp2
  go_ret
  refine ⟨?_, chg_drew _ _⟩
  show Ending.returned (.int .u16 (bits BinOp.or IntKind.u16 (IntKind.u16.wrap (IntKind.u16.wrap (x : Int) * 256)) (IntKind.u16.wrap (y : Int)))) = _
  rw [or_u16w x y hx hy, HA.out]

theorem mayB_no1 {l : List UInt8} (h : l.length % 2 ≠ 0) : mayB l = false := by
  rw [← Bool.not_eq_true, mayB_iff]; exact fun q => h q.1
theorem mayB_no2 {l : List UInt8} (h : ¬ (1 ≤ alen l ∧ alen l ≤ 8)) : mayB l = false := by
  rw [← Bool.not_eq_true, mayB_iff]; exact fun q => h ⟨q.2.1, q.2.2.1⟩
theorem mayB_no3 {l : List UInt8} {i : Nat} (hi : i < alen l) (h : atomAt l i = 0) : mayB l = false := by
  rw [← Bool.not_eq_true, mayB_iff]; exact fun q => q.2.2.2 i hi h
theorem wmay_any (w : World) (s : ByteArray) (hs : s.size ≤ maxLen) :
    Calls Try.prog 18 #[.string s] w fun e w' => e = .returned (.bool (mayB s.data.toList)) ∧ Chg (fun _ => False) w w' := by
  have hsl := size_list s
  have LEN := Lib.hid (fun w => wlen_any w s hs)
  by_cases ho : s.size % 2 = 0
  · have ODD := Lib.hid (wodd_no w s hs ho)
    by_cases hb : 1 ≤ alen s.data.toList ∧ alen s.data.toList ≤ 8
    · obtain ⟨hb1, hb2⟩ := hb
      have AT := Lib.hid (fun w k hk => wat_in w s k hs hk)
      have MB := Lib.hid (show ∀ n, n = alen s.data.toList → (∀ i, i < n → atomAt s.data.toList i ≠ 0) → mayB s.data.toList = true from fun n hn h => (mayB_iff _).2 ⟨by rw [hsl]; exact ho, hb1, hb2, fun i hi => h i (by omega)⟩)
      have MN := Lib.hid (show ∀ i, i < alen s.data.toList → atomAt s.data.toList i = 0 → mayB s.data.toList = false from fun i hi h => mayB_no3 hi h)
      clear hs hsl ho
      have HN := Lib.hid (show alen s.data.toList = alen s.data.toList from rfl)
      generalize hn : alen s.data.toList = n at *
      have NN := Lib.hid hn
      clear hn HN
      have g1 : decide ((n : Int) < 1) = false := by rw [decide_eq_false_iff_not]; omega
      have g2 : decide (8 < (n : Int)) = false := by rw [decide_eq_false_iff_not]; omega
      go_enter Try.func18, Try.ntmps18
      go_wp2_with fail
      refine (ODD.out).mono ?_
      rintro e w' ⟨rfl, rfl⟩
      go_wp2_with fail
      refine (LEN.out _).mono ?_
      rintro e w' ⟨rfl, rfl⟩
      go_wp2_with fail
      refine (LEN.out _).mono ?_
      rintro e w' ⟨rfl, rfl⟩
      go_wp2_with fail
      refine (LEN.out _).mono ?_
      rintro e w' ⟨rfl, rfl⟩
      go_wp2
      go_loopw [18] (fun i wr => ∃ k : Nat, k ≤ n ∧ i = .int .i64 k ∧ Hid (∀ i, i < k → atomAt s.data.toList i ≠ 0) ∧ Chg (fun _ => False) w wr) (fun i _ => n - (intOf i).toNat)
      case atStart => exact ⟨0, by omega, rfl, Lib.hid (fun i hi => by omega), Chg.refl _ _⟩
      case round =>
        obtain ⟨k, hk, rfl, HZ, hc⟩ := hrel
        have HC := Lib.hid hc
        clear hc
        by_cases hlt : k < n
        · go_wp2_with fail
          refine (AT.out wr k hlt).mono ?_
          rintro e w1 ⟨rfl, c1⟩
          have C1 := Lib.hid (HC.out.trans c1)
          clear c1
          have hal := atomAt_lt s.data.toList k
          by_cases hz : atomAt s.data.toList k = 0
          · have HF := Lib.hid (MN.out k hlt hz)
            rw [hz]
            go_wp2
            go_ret
            exact ⟨by rw [HF.out]; rfl, C1.out⟩
          · have hz1 : (((atomAt s.data.toList k : Nat) : Int) == 0) = false := by rw [beq_eq_false_iff_ne]; omega
            have HZ2 := Lib.hid (show ∀ i, i < k + 1 → atomAt s.data.toList i ≠ 0 from fun i hi => by
              rcases Nat.lt_or_ge i k with q | q
              · exact HZ.out i q
              · obtain rfl : i = k := by omega
                exact hz)
            clear hz
            generalize atomAt s.data.toList k = ak at *
            go_wp2
            go_roundw
            case rel => exact ⟨k + 1, by omega, by go_num, HZ2, C1.out⟩
            case measure => simp [intOf]; omega
        · obtain rfl : k = n := by omega
          have HT := Lib.hid (MB.out k rfl HZ.out)
          go_wp2
          go_ret
          exact ⟨by rw [HT.out]; rfl, HC.out⟩
    · have HF := Lib.hid (mayB_no2 hb)
      clear hs hsl ho
      generalize alen s.data.toList = n at *
      by_cases h1 : n < 1
      · clear hb
        go_enter Try.func18, Try.ntmps18
        go_wp2_with fail
        refine (ODD.out).mono ?_
        rintro e w' ⟨rfl, rfl⟩
        go_wp2_with fail
        refine (LEN.out _).mono ?_
        rintro e w' ⟨rfl, rfl⟩
        go_wp2
        go_ret
        exact ⟨by rw [HF.out]; rfl, Chg.refl _ _⟩
      · have h2 : 8 < n := by omega
        have g1 : decide ((n : Int) < 1) = false := by rw [decide_eq_false_iff_not]; omega
        have g2 : decide (8 < (n : Int)) = true := by rw [decide_eq_true_eq]; omega
        clear hb h1
        go_enter Try.func18, Try.ntmps18
        go_wp2_with fail
        refine (ODD.out).mono ?_
        rintro e w' ⟨rfl, rfl⟩
        go_wp2_with fail
        refine (LEN.out _).mono ?_
        rintro e w' ⟨rfl, rfl⟩
        go_wp2_with fail
        refine (LEN.out _).mono ?_
        rintro e w' ⟨rfl, rfl⟩
        go_wp2
        go_ret
        exact ⟨by rw [HF.out]; rfl, Chg.refl _ _⟩
  · have ODD := Lib.hid (wodd_yes w s hs ho)
    have HF := Lib.hid (mayB_no1 (l := s.data.toList) (by rw [hsl]; exact ho))
    clear hs hsl ho LEN
    go_enter Try.func18, Try.ntmps18
    go_wp2_with fail
    refine (ODD.out).mono ?_
    rintro e w' ⟨rfl, rfl⟩
    go_wp2
    go_ret
    exact ⟨by rw [HF.out]; rfl, Chg.refl _ _⟩
end Go.Proofs.Ytiidagdapckgjaa
