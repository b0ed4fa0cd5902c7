/-
  The reference's All.
-/
import Derived.Test.YtiidagdapckgjaaMRef3
namespace Go.Proofs.Ytiidagdapckgjaa
open Go.RowKit Go.Maps

def hereTo (l : List (List UInt8)) (w : List UInt8) (a i : Nat) : List Nat := (List.range i).filter fun t => standsB (l.getD t []) w a
theorem hereTo_succ (l : List (List UInt8)) (w : List UInt8) (a i : Nat) : hereTo l w a (i + 1) = if standsB (l.getD i []) w a then hereTo l w a i ++ [i] else hereTo l w a i := by
  unfold hereTo
  rw [List.range_succ, List.filter_append]
  by_cases h : standsB (l.getD i []) w a = true
  · rw [if_pos h]; simp only [List.filter_cons, h, if_true, List.filter_nil]
  · rw [if_neg h]; simp only [List.filter_cons, if_neg h, List.filter_nil, List.append_nil]
theorem hereTo_length (l : List (List UInt8)) (w : List UInt8) (a i : Nat) : (hereTo l w a i).length ≤ i := by
  have := List.length_filter_le (fun t => standsB (l.getD t []) w a) (List.range i)
  simpa [hereTo] using this
theorem ext_mid (s : ByteArray) (a b : Nat) : (s.extract a b).data.toList = (s.data.toList.drop a).take (b - a) := by
  rw [ByteArray.data_extract, Array.toList_extract, List.extract_eq_take_drop]
theorem cut_eq (s x : ByteArray) (a : Nat) : ((s.extract (2 * a) (2 * a + x.size)).toList == x.toList) = ((s.data.toList.drop (2 * a)).take x.data.toList.length == x.data.toList) := by
  rw [ByteArray.toList_eq, ByteArray.toList_eq, ext_mid, size_list, show 2 * a + x.size - 2 * a = x.size from by omega]

set_option maxHeartbeats 4000000 in
set_option maxRecDepth 100000 in
theorem rall_any (w : World) (v : Value) (l : List ByteArray) (s : ByteArray) (hv : WordsAt w v (· < w.heap.size) l) (hl : l.length ≤ 110) (hx4 : ∀ x ∈ l, x.size ≤ 400) (hs : s.size ≤ 400) :
    Calls Try.prog 11 #[v, .string s] w fun e w' => ∃ v', e = .returned v' ∧ w'.ownsRow w.heap.size 32 2 v' (hits (lists l) s.data.toList).length (hcells (hits (lists l) s.data.toList)) ∧ Chg (fun _ => False) w w' := by
  obtain ⟨la, cap, rfl, _, hl3⟩ := hv
  have HL3 := Lib.hid hl3
  have HX4 := Lib.hid hx4
  have LL := Lib.hid (lists_length l)
  clear hl3 hx4
  have hsl := size_list s
  have ATO := Lib.hid (fun w => ratoms_any w s (by omega))
  have AL := Lib.hid (atoms_length s.data.toList)
  have hn2 : 2 * alen s.data.toList ≤ s.size := by unfold alen; omega
  have HS := Lib.hid (fun k => hitsTo_succ (lists l) s.data.toList k)
  have HLN := Lib.hid (fun k => hitsTo_length (lists l) s.data.toList k)
  have HH := Lib.hid (show ∀ k, hereL (lists l) s.data.toList k = hereTo (lists l) s.data.toList k l.length from fun k => by unfold hereL hereTo; rw [LL.out])
  have SB := Lib.hid (fun x a => standsB_bytes x s.data.toList a)
  have HSL := Lib.hid hsl
  clear hsl
  rw [AL.out] at ATO
  unfold hits
  obtain ⟨n, hn⟩ : ∃ n, alen s.data.toList = n := ⟨_, rfl⟩
  rw [hn] at ATO hn2 ⊢
  have HN := Lib.hid hn
  clear hn
  go_enter Try.func11, Try.ntmps11
  go_wp2_with fail
  refine (ATO.out _).mono ?_
  rintro e w1 ⟨v1, rfl, o1, c1⟩
  obtain ⟨ra, rc, rfl, hrl, _⟩ := own_get o1
  have C1 := Lib.hid ((chg_alloc (fun _ => False) w (.cells #[] 32)).trans c1)
  have O1 := Lib.hid (own_chg (own_empty w w.heap.size 32 2 (Nat.le_refl _)) c1 (fun _ _ e => e))
  unfold maxLen at hrl
  clear o1 c1
  go_wp2
  go_loopw [5, 7] (fun lv iv wr => ∃ k : Nat, k ≤ n ∧ iv = .int .i64 k ∧ wr.ownsRow w.heap.size 32 2 lv (hitsTo (lists l) s.data.toList k).length (hcells (hitsTo (lists l) s.data.toList k)) ∧ Chg (fun _ => False) w wr) (fun _ iv _ => n - (intOf iv).toNat)
  case atStart => exact ⟨0, by omega, rfl, O1.out, C1.out⟩
  case round =>
    obtain ⟨k, hk, rfl, ho, hc⟩ := hrel
    have HO := Lib.hid ho
    have HC := Lib.hid hc
    clear ho hc O1 C1
    by_cases hlt : k < n
    · have hln := HLN.out k
      rw [LL.out] at hln
      have HSK := Lib.hid (HS.out k)
      rw [HH.out] at HSK
      generalize hitsTo (lists l) s.data.toList k = T at *
      have hT : T.length ≤ 22000 := Nat.le_trans hln (Nat.le_trans (Nat.mul_le_mul (by omega : k ≤ 200) hl) (by omega))
      obtain ⟨wo, hwo⟩ : ∃ wo, wo = wr := ⟨_, rfl⟩
      rw [← hwo] at HO HC ⊢
      clear hwo
      go_wp2
      go_loopw [5, 8] (fun lv iv wq => ∃ i : Nat, i ≤ l.length ∧ iv = .int .i64 i ∧ wq.ownsRow w.heap.size 32 2 lv (T ++ (hereTo (lists l) s.data.toList k i).map fun t => (k, t)).length (hcells (T ++ (hereTo (lists l) s.data.toList k i).map fun t => (k, t))) ∧ Chg (fun _ => False) w wq) (fun _ iv _ => l.length - (intOf iv).toNat)
      case atStart => exact ⟨0, by omega, rfl, by simpa [hereTo] using HO.out, HC.out⟩
      case round =>
        obtain ⟨i, hi, rfl, ho, hc⟩ := hrel
        have HO := Lib.hid ho
        have HC := Lib.hid hc
        clear ho hc
        by_cases hlt2 : i < l.length
        · obtain ⟨x, hx⟩ : ∃ x, l[i]? = some x := ⟨_, List.getElem?_eq_getElem hlt2⟩
          obtain ⟨lb, lo, rfl, hlb, c0, _⟩ := HL3.out i x hx
          have c1 := cell_chg HC.out (fun e => e) c0
          have hx4 := HX4.out x (List.mem_of_getElem? hx)
          have hts := hereTo_succ (lists l) s.data.toList k i
          rw [lists_get hx, SB.out] at hts
          have hhl := hereTo_length (lists l) s.data.toList k i
          have CUT := Lib.hid (cut_eq s x k)
          have SM := Lib.hid (show sameAt x.data.toList s.data.toList k = (decide (2 * k + x.size ≤ 2 * n) && ((s.data.toList.drop (2 * k)).take x.data.toList.length == x.data.toList)) by unfold sameAt; rw [HN.out, size_list])
          have MAY := Lib.hid (rmay_any wr x (by omega))
          generalize hereTo (lists l) s.data.toList k i = R at *
          have HTS := Lib.hid hts
          clear c0 hx hts
          by_cases hm : mayB x.data.toList = true
          · rw [hm] at MAY
            rw [hm, Bool.true_and] at HTS
            clear hm
            go_wp2_with fail
            refine (MAY.out).mono ?_
            rintro e w2 ⟨rfl, k2⟩
            have c2 := cell_chg k2 (fun e => e) c1
            have C2 := Lib.hid (HC.out.trans k2)
            have O2 := Lib.hid (own_chg HO.out k2 (fun _ _ e => e))
            clear k2 c1 HC HO MAY
            have a1 : IntKind.i64.wrap (2 * (k : Int)) = 2 * (k : Int) := by rw [IntKind.wrap_i64]; omega
            have a2 : IntKind.i64.wrap (2 * (k : Int) + (x.size : Int)) = 2 * (k : Int) + (x.size : Int) := by rw [IntKind.wrap_i64]; omega
            have a3 : IntKind.i64.wrap (2 * (n : Int)) = 2 * (n : Int) := by rw [IntKind.wrap_i64]; omega
            by_cases hq : 2 * k + x.size ≤ 2 * n
            · have g1 : decide (2 * (k : Int) + (x.size : Int) ≤ 2 * (n : Int)) = true := by rw [decide_eq_true_eq]; omega
              have hd : decide (2 * k + x.size ≤ 2 * n) = true := by rw [decide_eq_true_eq]; exact hq
              rw [hd, Bool.true_and, ← CUT.out] at SM
              rw [SM.out] at HTS
              clear SM CUT hd
              have b1 : 0 ≤ 2 * (k : Int) := by omega
              have b2 : 2 * (k : Int) + (x.size : Int) ≤ (s.size : Int) := by omega
              have b3 : 0 ≤ 2 * (k : Int) + (x.size : Int) := by omega
              have b4 : 2 * (k : Int) ≤ 2 * (k : Int) + (x.size : Int) := by omega
              have b5 : 2 * k + x.size ≤ s.size := by omega
              have b6 : 2 * k ≤ s.size := by omega
              have t1 : (2 * (k : Int)).toNat = 2 * k := by omega
              have t2 : (2 * (k : Int) + (x.size : Int)).toNat = 2 * k + x.size := by omega
              by_cases he : ((s.extract (2 * k) (2 * k + x.size)).toList == x.toList) = true
              · rw [if_pos he] at HTS
                have R1 := HTS
                have hlen : (T ++ R.map fun t => (k, t)).length ≤ 22200 := by rw [List.length_append, List.length_map]; omega
                have RS := Lib.hid (show hcells (T ++ (R ++ [i]).map fun t => (k, t)) = hcells (T ++ R.map fun t => (k, t)) ++ [.int .i64 (k : Int), .int .i64 (i : Int)] by rw [List.map_append, ← List.append_assoc, hcells_append]; rfl)
                have RL := Lib.hid (show (T ++ (R ++ [i]).map fun t => (k, t)).length = (T ++ R.map fun t => (k, t)).length + 1 by simp only [List.length_append, List.length_map, List.length_singleton]; omega)
                generalize (T ++ R.map fun t => (k, t)) = T1 at *
                have hsz := C2.out.size
                go_wp2
                refine wp_still_drew (by kernel_rfl) (by kernel_rfl) ?_
                repeat still_step
                refine wpStill_nil ?_
                clear a1 a2 a3 b1 b2 b3 b4 b5 b6 t1 t2 he g1
                have C3 := Lib.hid C2.out.drew
                have O3 := Lib.hid (own_chg O2.out (chg_drew (fun _ => False) w2) (fun _ _ e => e))
                clear C2 O2 c2
                have hsz3 : w.heap.size ≤ w2.drew.heap.size := hsz
                generalize w2.drew = w3 at *
                go_wp2_with (at_builtin; refine wpList_push rfl (.tmp 58) (.tmp 62) 28 rfl 32 2 16 Try.underlying28 Try.elemHit w.heap.size _ _ _ rfl (O3.out.alloc _) _ [.int .i64 (k : Int), .int .i64 (i : Int)] 32 (0, 0) rfl (obj_alloc_new _ _) rfl ?c1 ?c2 ?c3 ?c4 ?next)
                case c1 => intro u hu; simp at hu; rcases hu with rfl | rfl <;> rfl
                case c2 => omega
                case c3 => unfold maxLen; omega
                case c4 => simp; omega
                case next =>
                  intro v5 w5 o5 g5
                  have C5 := Lib.hid ((C3.out.alloc (.cells #[.int .i64 (k : Int), .int .i64 (i : Int)] 32)).own (O3.out.alloc _) (Chg.of_grown g5))
                  rw [← RS.out, ← RL.out] at o5
                  have O5 := Lib.hid o5
                  clear o5 g5
                  go_wp2
                  go_roundw
                  case rel => exact ⟨i + 1, by omega, by go_num, by rw [R1.out]; exact O5.out, C5.out⟩
                  case measure => simp [intOf]; omega
              · have he : ((s.extract (2 * k) (2 * k + x.size)).toList == x.toList) = false := by simpa using he
                rw [he, if_neg (by decide)] at HTS
                have R1 := HTS
                go_wp2
                refine wp_still_drew (by kernel_rfl) (by kernel_rfl) ?_
                repeat still_step
                refine wpStill_nil ?_
                go_wp2
                go_roundw
                case rel => exact ⟨i + 1, by omega, by go_num, by rw [R1.out]; exact O2.out, C2.out.drew⟩
                case measure => simp [intOf]; omega
            · have g1 : decide (2 * (k : Int) + (x.size : Int) ≤ 2 * (n : Int)) = false := by rw [decide_eq_false_iff_not]; omega
              have hd : decide (2 * k + x.size ≤ 2 * n) = false := by rw [decide_eq_false_iff_not]; exact hq
              rw [hd, Bool.false_and] at SM
              rw [SM.out, if_neg (by decide)] at HTS
              have R1 := HTS
              clear SM CUT hd
              go_wp2
              go_quiet (fail)
              rename_i nq
              go_wp2
              go_roundw
              case rel => exact ⟨i + 1, by omega, by go_num, by rw [R1.out]; exact O2.out, C2.out.drewN nq⟩
              case measure => simp [intOf]; omega
          · have hm : mayB x.data.toList = false := by simpa using hm
            rw [hm] at MAY
            rw [hm, Bool.false_and, if_neg (by decide)] at HTS
            have R1 := HTS
            clear hm
            go_wp2_with fail
            refine (MAY.out).mono ?_
            rintro e w2 ⟨rfl, k2⟩
            have C2 := Lib.hid (HC.out.trans k2)
            have O2 := Lib.hid (own_chg HO.out k2 (fun _ _ e => e))
            clear k2 MAY
            go_wp2
            go_roundw
            case rel => exact ⟨i + 1, by omega, by go_num, by rw [R1.out]; exact O2.out, C2.out⟩
            case measure => simp [intOf]; omega
        · obtain rfl : i = l.length := by omega
          rw [← HSK.out] at HO
          have hdm : decide (l.length < l.length) = false := by simp
          go_wp2
          go_roundw
          case rel => exact ⟨k + 1, by omega, by go_num, HO.out, HC.out⟩
          case measure => simp [intOf]; omega
    · obtain rfl : k = n := by omega
      have hkd : decide (k < k) = false := by simp
      go_wp2
      go_ret
      exact ⟨_, rfl, HO.out, HC.out⟩
end Go.Proofs.Ytiidagdapckgjaa
