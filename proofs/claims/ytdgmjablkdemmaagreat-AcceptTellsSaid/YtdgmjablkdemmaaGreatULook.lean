/-
  Package accept: the looker's stale; slices.Index, Contains of words.
-/
import Derived.Test.YtdgmjablkdemmaaGreatUPlain
import Derived.Test.YtdgmjablkdemmaaGreatRWFind
import Derived.Test.YtdgmjablkdemmaaGreatCCheck
import Derived.Test.YtdgmjablkdemmaaGreatCMap
namespace Go.Proofs.YtdgmjablkdemmaaGreat
open Go.RowKit Go.Maps

section
variable (w : World) (v : Value) (G : Nat → Prop) (l : List ByteArray) (x : ByteArray)
theorem indexL_any (hv : WordsAt w v G l) : Calls Tryz.prog 97 #[v, .string x] w fun e w' => e = .returned (.int .i64 (idxI l x)) ∧ w = w' := by
  obtain ⟨la, cap, rfl, hl0, hcl⟩ := hv
  have HCL := Lib.hid hcl
  unfold maxLen at hl0
  clear hcl
  go_enter Tryz.func97, Tryz.ntmps97
  go_wp2
  go_loop [8] (fun iv => ∃ k : Nat, k ≤ l.length ∧ iv = .int .i64 k ∧ Hid (∀ j, j < k → l[j]? ≠ some x)) (fun iv => l.length - (intOf iv).toNat)
  case atStart => exact ⟨0, by omega, rfl, Lib.hid (fun j hj => by omega)⟩
  case round =>
    obtain ⟨k, hk, rfl, HI⟩ := hrel
    by_cases hlt : k < l.length
    · obtain ⟨y, hy⟩ : ∃ y, l[k]? = some y := ⟨_, List.getElem?_eq_getElem hlt⟩
      obtain ⟨lb, lo, rfl, _, c0, _⟩ := HCL.out k y hy
      by_cases hxy : x = y
      · have n1 : (x.toList == y.toList) = true := by rw [str_eq, decide_eq_true hxy]
        have R := Lib.hid (show idxI l x = (k : Int) by
          have := idx_at (hxy ▸ hy) HI.out
          unfold idxI
          rw [if_pos this.1, this.2])
        clear hy hxy
        go_wp2
        go_ret
        exact ⟨by rw [R.out]; rfl, rfl⟩
      · have n1 : (x.toList == y.toList) = false := by rw [str_eq, decide_eq_false hxy]
        have HI2 := Lib.hid (show ∀ j, j < k + 1 → l[j]? ≠ some x from fun j hj => by
          rcases Nat.lt_or_ge j k with q | q
          · exact HI.out j q
          · obtain rfl : j = k := by omega
            rw [hy]; exact fun e => hxy (Option.some.inj e).symm)
        clear hy hxy
        go_wp2
        go_round
        case rel => exact ⟨k + 1, by omega, by go_num, HI2⟩
        case measure => simp [intOf]; omega
    · obtain rfl : k = l.length := by omega
      have R := Lib.hid (show idxI l x = -1 from if_neg (idx_none HI.out))
      go_wp2
      go_ret
      exact ⟨by rw [R.out]; rfl, rfl⟩
theorem containsL_any (hv : WordsAt w v G l) : Calls Tryz.prog 76 #[v, .string x] w fun e w' => e = .returned (.bool (decide (x ∈ l))) ∧ w = w' := by
  have IX := Lib.hid (indexL_any w v G l x hv)
  obtain ⟨la, cap, rfl, hl0, _⟩ := hv
  by_cases h : x ∈ l
  · have R := Lib.hid (show decide (x ∈ l) = true from decide_eq_true h)
    have q : 0 ≤ idxI l x := by unfold idxI; rw [if_pos h]; omega
    have g : decide (0 ≤ idxI l x) = true := decide_eq_true q
    clear h
    go_enter Tryz.func76, Tryz.ntmps76
    go_wp2_with (first | ((with_reducible refine (IX.out).mono ?_); rintro e w1 ⟨rfl, rfl⟩) | go_in)
    go_ret
    exact ⟨by rw [R.out]; rfl, rfl⟩
  · have R := Lib.hid (show decide (x ∈ l) = false from decide_eq_false h)
    have q : idxI l x = -1 := if_neg h
    rw [q] at IX
    clear h q
    go_enter Tryz.func76, Tryz.ntmps76
    go_wp2_with (first | ((with_reducible refine (IX.out).mono ?_); rintro e w1 ⟨rfl, rfl⟩) | go_in)
    go_ret
    exact ⟨by rw [R.out]; rfl, rfl⟩
end
/-- The rules from one on. -/
theorem drop_rules {w : World} {ra : Option Addr} {R : List BRul} {rc n : Nat} {G : Nat → Prop} (h : RulesAt w (.slice ra R.length rc) G R) (hn : n ≤ R.length) (hcap : n = R.length ∨ R.length ≤ rc) :
    ∃ ra' rc', RulesAt w (.slice ra' (R.drop n).length rc') G (R.drop n) ∧ ∀ w', (Instr.slice 58 (.slice ra R.length rc) (some (.int .i64 (n : Int))) none none).run Tryz.prog w' = .ok (.slice ra' (R.drop n).length rc') w' := by
  have hel : Tryz.prog.elem 58 = 73 := by kernel_rfl
  have hu : Tryz.prog.underlying 58 = some (.slice (Tryz.prog.elem 58)) := by rw [hel]; exact Tryz.underlying58
  have hsz : ∀ w', (sizeOf (Tryz.prog.elem 58)).run Tryz.prog w' = .ok 2 w' := fun w' => by rw [hel]; kernel_rfl
  obtain ⟨_, _, e, h2, h3⟩ := h
  cases e
  have run : ∀ w', (Instr.slice 58 (.slice ra R.length rc) (some (.int .i64 (n : Int))) none none).run Tryz.prog w' = .ok (sliced ra n R.length rc 2) w' := fun w' => by
    rw [run_slice_l (P := Tryz.prog) (t := 58) (a := ra) (len := R.length) (cap := rc) (ht := hu) (kl := .i64) (l := (n : Int)) (h0 := by omega) (h1 := by omega), hsz]
    simp [Result.andThen]
  have hlen : (R.drop n).length = R.length - n := List.length_drop
  unfold sliced at run
  generalize ha : (if rc = n then ra else ra.map (·.add (n * 2))) = ra' at run
  refine ⟨ra', rc - n, ⟨ra', rc - n, rfl, by omega, fun j r hj => ?_⟩, fun w' => by rw [run, hlen]⟩
  have hjl := (List.getElem?_eq_some_iff.1 hj).1
  rw [if_neg (by omega)] at ha
  rw [List.getElem?_drop] at hj
  obtain ⟨lb, lo, q1, q2, q3, q4, q5⟩ := h3 _ _ hj
  subst q1
  refine ⟨lb, lo + n * 2, by rw [← ha]; simp [addr_add], q2, ?_, ?_, q5⟩
  · rw [show lo + n * 2 + j * 2 = lo + (n + j) * 2 from by omega]; exact q3
  · rw [show lo + n * 2 + j * 2 + 1 = lo + (n + j) * 2 + 1 from by omega]; exact q4
def StaleRes (w : World) (r : Bool) (e : Ending) (w' : World) : Prop := e = .returned (.bool r) ∧ Chg (fun _ => False) w w'
theorem stale_yes {R : List BRul} {n j k : Nat} {L : List ByteArray} {r : BRul} {y : ByteArray} (hr : (R.drop n)[j]? = some r) (hc : countsB (brul r) = true) (hy : L[k]? = some y) (hf : 0 ≤ findI y.data.toList r.1.data.toList 0) : staleB R n L = true := by
  unfold staleB
  rw [List.any_eq_true]
  refine ⟨r, List.mem_of_getElem? hr, ?_⟩
  rw [hc, Bool.true_and, List.any_eq_true]
  exact ⟨y, List.mem_of_getElem? hy, decide_eq_true hf⟩
theorem stale_no {R : List BRul} {n : Nat} {L : List ByteArray} (h : ∀ (j : Nat) (r : BRul), (R.drop n)[j]? = some r → countsB (brul r) = true → ∀ (k : Nat) (y : ByteArray), L[k]? = some y → findI y.data.toList r.1.data.toList 0 < 0) : staleB R n L = false := by
  unfold staleB
  rw [List.any_eq_false]
  intro r hr
  obtain ⟨j, hj⟩ := List.mem_iff_getElem?.1 hr
  rw [Bool.and_eq_true, not_and, Bool.not_eq_true]
  intro hc
  rw [List.any_eq_false]
  intro y hy
  obtain ⟨k, hk⟩ := List.mem_iff_getElem?.1 hy
  have := h j r hj hc k y hk
  simp
  omega
set_option maxHeartbeats 4000000 in
set_option maxRecDepth 100000 in
theorem stale_any (w : World) (lk mS : Nat) (b : Int) (ra : Option Addr) (R : List BRul) (rc n : Nat) (G C : Nat → Prop) (a : Option Addr) (L : List ByteArray) (c : Nat)
    (ho : w.heap[lk]? = some (.cells #[.slice ra R.length rc, .int .i64 b, .map (some mS)] 100 (0, 0))) (hR : RulesAt w (.slice ra R.length rc) G R) (hL : WordsAt w (.slice a L.length c) C L) (h16 : ∀ y ∈ L, y.size ≤ 16) (hn : n ≤ R.length) (hcap : n = R.length ∨ R.length ≤ rc) (hsz : ∀ r ∈ R, r.1.size ≤ 400) :
    Calls Tryz.prog 95 #[.pointer (some ⟨lk, 0, none⟩), .agg #[.int .i64 (n : Int), .slice a L.length c]] w (StaleRes w (staleB R n L)) := by
  have hRl : R.length ≤ maxLen := by obtain ⟨_, _, e, q, _⟩ := hR; exact q
  obtain ⟨ra', rc', hD, run⟩ := drop_rules hR hn hcap
  have hsz' : ∀ r ∈ R.drop n, r.1.size ≤ 400 := fun r hr => hsz r (List.mem_of_mem_drop hr)
  have YES := Lib.hid (fun j k r y => @stale_yes R n j k L r y)
  have NO := Lib.hid (@stale_no R n L)
  have hdl : (R.drop n).length ≤ maxLen := by rw [List.length_drop]; omega
  unfold StaleRes
  generalize staleB R n L = res at *
  have ka := chg_alloc (fun _ => False) w (.cells #[.int .i64 (n : Int), .slice a L.length c] 142)
  have kd := chg_drew (fun _ => False) (w.alloc (.cells #[.int .i64 (n : Int), .slice a L.length c] 142))
  have KD := Lib.hid (ka.trans kd)
  have oa := obj_alloc_new w (.cells #[.int .i64 (n : Int), .slice a L.length c] 142)
  have o1 := ka.obj (fun e => e) ho
  have d0 : (w.alloc (.cells #[.int .i64 (n : Int), .slice a L.length c] 142)).drew.cell? ⟨lk, 0, none⟩ = some (.slice ra R.length rc) := cell_of (o := 0) o1 rfl
  have n0 : (w.alloc (.cells #[.int .i64 (n : Int), .slice a L.length c] 142)).drew.cell? ⟨w.heap.size, 0, none⟩ = some (.int .i64 (n : Int)) := cell_of (o := 0) oa rfl
  have LA := Lib.hid (kd.obj (fun e => e) oa)
  have HD := Lib.hid (hD.chg (ka.trans kd) (fun _ _ e => e))
  have HL := Lib.hid (hL.chg (ka.trans kd) (fun _ _ e => e))
  have HS := Lib.hid hsz'
  have H16 := Lib.hid h16
  obtain ⟨_, _, eD, _, _⟩ := hD
  clear ka kd oa o1 ho hR hL hn hcap hsz hsz' h16
  generalize hDD : R.drop n = D at *
  clear hDD
  go_enter Tryz.func95, Tryz.ntmps95
  go_wp2_with fail
  refine wp_still_drew (by kernel_rfl) (by kernel_rfl) ?_
  repeat still_step
  refine wpStill_nil ?_
  generalize (w.alloc (.cells #[.int .i64 (n : Int), .slice a L.length c] 142)).drew = w1 at *
  clear d0 n0 run
  unfold maxLen at hdl
  go_wp2_with fail
  go_loopw [17] (fun iv wr => ∃ k : Nat, k ≤ D.length ∧ iv = .int .i64 k ∧ Hid (Chg (fun _ => False) w1 wr ∧ ∀ j r, j < k → D[j]? = some r → countsB (brul r) = true → ∀ (i : Nat) (y : ByteArray), L[i]? = some y → findI y.data.toList r.1.data.toList 0 < 0)) (fun iv _ => D.length - (intOf iv).toNat)
  case atStart => exact ⟨0, by omega, rfl, Lib.hid ⟨Chg.refl _ _, fun j r hj => by omega⟩⟩
  case round =>
    obtain ⟨k, hk, rfl, HI⟩ := hrel
    obtain ⟨hkc, hno⟩ := HI.out
    have KC := Lib.hid hkc
    have HNO := Lib.hid hno
    clear HI hkc hno
    by_cases hlt : k < D.length
    rotate_left
    · obtain rfl : k = D.length := by omega
      have R0 := Lib.hid (NO.out (fun j r hj hc => HNO.out j r (List.getElem?_eq_some_iff.1 hj).1 hj hc))
      go_wp2
      go_ret
      exact ⟨by rw [R0.out]; rfl, KD.out.trans KC.out⟩
    obtain ⟨r, hr⟩ : ∃ r, D[k]? = some r := ⟨_, List.getElem?_eq_getElem hlt⟩
    obtain ⟨_, _, e1, _, hcl⟩ := HD.out.chg KC.out (fun _ _ e => e)
    cases e1
    obtain ⟨lb, lo, rfl, _, c0, c1, hs1, hs2⟩ := hcl k r hr
    have HR := Lib.hid hr
    have hr4 := HS.out r (List.mem_of_getElem? hr)
    clear hcl hr
    obtain ⟨rf, rt⟩ := r
    simp only at c0 c1 hs1 hs2 hr4
    have ka := chg_alloc (fun _ => False) wr (.cells #[.string rf, .string rt] 73)
    have oa := obj_alloc_new wr (.cells #[.string rf, .string rt] 73)
    have CO := counts_any (wr.alloc (.cells #[.string rf, .string rt] 73)) (rf, rt) hs1 hs2
    unfold ruleV at CO
    simp only at CO
    have CO := Lib.hid CO
    have OA := Lib.hid oa
    have KA := Lib.hid (KC.out.trans ka)
    have OL := Lib.hid ((KC.out.trans ka).obj (fun e => e) LA.out)
    have HLA := Lib.hid (HL.out.chg (KC.out.trans ka) (fun _ _ e => e))
    clear ka oa
    go_wp2_with fail
    generalize wr.alloc (.cells #[.string rf, .string rt] 73) = wa at *
    cases hcb : countsB (brul (rf, rt)) with
    | false =>
      have HCB := Lib.hid hcb
      rw [hcb] at CO
      clear hcb
      (with_reducible refine (CO.out).mono ?_)
      rintro e w2 ⟨rfl, k2⟩
      have K2 := Lib.hid (KA.out.trans k2)
      clear k2 CO c0 c1
      go_wp2
      go_roundw
      case rel => exact ⟨k + 1, by omega, by go_num, Lib.hid ⟨K2.out, fun j r hj hr hc => by
        rcases Nat.lt_or_ge j k with q | q
        · exact HNO.out j r q hr hc
        · obtain rfl : j = k := by omega
          rw [HR.out] at hr; cases hr
          rw [HCB.out] at hc; cases hc⟩⟩
      case measure => simp [intOf]; omega
    | true =>
      have HCB := Lib.hid hcb
      have hmay : mayB rf.data.toList = true := by
        unfold countsB at hcb
        simp only [Bool.and_eq_true] at hcb
        exact hcb.1.1
      have hmz : rf.size ≤ 16 ∧ rf.size % 2 = 0 ∧ 0 < rf.size := ⟨(may_size (a := rf) hmay).1, (may_size (a := rf) hmay).2, by
        obtain ⟨_, q, _, _⟩ := (mayB_iff _).1 hmay
        unfold alen at q
        rw [size_list] at q
        omega⟩
      have MZ := Lib.hid hmz
      rw [hcb] at CO
      clear hcb hmay hmz
      (with_reducible refine (CO.out).mono ?_)
      rintro e w2 ⟨rfl, k2⟩
      have d0 := cell_of (o := 0) (k2.obj (fun e => e) OL.out) rfl
      have d1 := cell_of (o := 1) (k2.obj (fun e => e) OL.out) rfl
      have O2 := Lib.hid (k2.obj (fun e => e) OA.out)
      have HL2 := Lib.hid (HLA.out.chg k2 (fun _ _ e => e))
      have K2 := Lib.hid (KA.out.trans k2)
      have hll : L.length ≤ maxLen := by obtain ⟨_, _, _, q, _⟩ := HL2.out; exact q
      unfold maxLen at hll
      clear k2 CO c0 c1 OA OL HLA KA
      go_wp2_with fail
      go_loopw [27] (fun iv wq => ∃ i : Nat, i ≤ L.length ∧ iv = .int .i64 i ∧ Hid (w2 = wq ∧ ∀ (j : Nat) (y : ByteArray), j < i → L[j]? = some y → findI y.data.toList rf.data.toList 0 < 0)) (fun iv _ => L.length - (intOf iv).toNat)
      case atStart => exact ⟨0, by omega, rfl, Lib.hid ⟨rfl, fun j r hj => by omega⟩⟩
      case round =>
        obtain ⟨i, hi, rfl, HI⟩ := hrel
        obtain ⟨rfl, hno⟩ := HI.out
        have HN2 := Lib.hid hno
        clear HI hno
        by_cases hil : i < L.length
        rotate_left
        · obtain rfl : i = L.length := by omega
          go_wp2
          go_roundw
          case rel => exact ⟨k + 1, by omega, by go_num, Lib.hid ⟨K2.out, fun j r hj hr hc => by
            rcases Nat.lt_or_ge j k with q | q
            · exact HNO.out j r q hr hc
            · obtain rfl : j = k := by omega
              rw [HR.out] at hr; cases hr
              exact fun i y hy => HN2.out i y (List.getElem?_eq_some_iff.1 hy).1 hy⟩⟩
          case measure => simp [intOf]; omega
        obtain ⟨y, hy⟩ : ∃ y, L[i]? = some y := ⟨_, List.getElem?_eq_getElem hil⟩
        obtain ⟨_, _, e1, _, hcl⟩ := HL2.out
        cases e1
        obtain ⟨mb, mo, rfl, _, y0, hys⟩ := hcl i y hy
        have HY := Lib.hid hy
        have hy16 := H16.out y (List.mem_of_getElem? hy)
        clear hcl hy
        have r0 := cell_of (o := 0) O2.out rfl
        have FI := find_any w2 y rf 0 (by omega) (by omega) MZ.out.2.1 MZ.out.2.2 (by omega)
        rw [show ((0 : Nat) : Int) = 0 from rfl] at FI
        have FI := Lib.hid FI
        go_wp2_with fail
        (with_reducible refine (FI.out).mono ?_)
        rintro e w3 ⟨rfl, rfl⟩
        by_cases hf : 0 ≤ findI y.data.toList rf.data.toList 0
        · have R0 := Lib.hid (YES.out k i (rf, rt) y HR.out HCB.out HY.out hf)
          have g : decide (0 ≤ findI y.data.toList rf.data.toList 0) = true := decide_eq_true hf
          go_wp2
          go_ret
          exact ⟨by rw [R0.out]; rfl, KD.out.trans K2.out⟩
        · have g : decide (0 ≤ findI y.data.toList rf.data.toList 0) = false := decide_eq_false hf
          have hf2 := Lib.hid (Int.not_le.1 hf)
          clear hf
          go_wp2
          go_roundw
          case rel => exact ⟨i + 1, by omega, by go_num, Lib.hid ⟨by trivial, fun j z hj hz => by
            rcases Nat.lt_or_ge j i with q | q
            · exact HN2.out j z q hz
            · obtain rfl : j = i := by omega
              rw [HY.out] at hz; cases hz
              exact hf2.out⟩⟩
          case measure => simp [intOf]; omega
end Go.Proofs.YtdgmjablkdemmaaGreat
