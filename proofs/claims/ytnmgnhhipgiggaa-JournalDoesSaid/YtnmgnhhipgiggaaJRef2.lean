/-
  The reference of layer 20: full, burn, SetFuse, Read, each by a contract over the plain model of the device.
-/
import Derived.Test.YtnmgnhhipgiggaaJRef1
namespace Go.Proofs.Ytnmgnhhipgiggaa
open Go.RowKit

def slen : Value → Nat
  | .slice _ n _ => n
  | _ => 0
theorem Try.elemByte : ElemInfo Try.prog 5 1 1 := elemInfo_of (z := .int .u8 0) (by kernel_rfl) rfl (by decide)
theorem MRow.chg {S : Nat → Prop} {w w' : World} {base : Nat} {e : TypeId} {v : Value} {xs : List Value} (h : MRow w base e v xs) (hc : Chg S w w') (hs : ∀ k, base ≤ k → ¬ S k) : MRow w' base e v xs := by
  obtain ⟨g, cap, cur, fz, h1, h2, h3, r⟩ := h
  exact ⟨g, cap, cur, fz, h1, h2, hc.obj (hs g h2) h3, r⟩
theorem MRow.base {w : World} {base : Nat} {e : TypeId} {v : Value} {xs : List Value} (h : MRow w base e v xs) : ∀ k, v.ownBlock = some k → base ≤ k := by
  obtain ⟨g, cap, cur, fz, rfl, h2, r⟩ := h
  intro k hk; simp [Value.ownBlock] at hk; omega
theorem MRow.len {w : World} {base : Nat} {e : TypeId} {v : Value} {xs : List Value} (h : MRow w base e v xs) : ∃ g cap, v = .slice (some ⟨g, 0, none⟩) xs.length cap := by
  obtain ⟨g, cap, cur, fz, rfl, h2, r⟩ := h
  exact ⟨g, cap, rfl⟩
theorem mrow_bytes (w : World) (e : TypeId) (s : ByteArray) (hs : s.size ≤ maxLen) : MRow (Lib.bytesWorld w e s) w.heap.size e (.slice (some ⟨w.heap.size, 0, none⟩) s.size (grownCap w s.size 0 e)) (bcells s.data.toList) := by
  have hl : (bcells s.data.toList).length = s.size := by rw [bcells_length, Array.length_toList]; rfl
  have hz : s.data.size = s.size := rfl
  have hge := grownCap_ge w s.size 0 e
  refine ⟨w.heap.size, grownCap w s.size 0 e, _, _, by rw [hl], Nat.le_refl _, Lib.bytesWorld_at_new w e s, .inl (Nat.le_refl _), by rw [hl]; exact grownCap_ge w s.size 0 e, grownCap_le_maxLen w s.size 0 e hs, ?_, ?_⟩
  · simp [Lib.bytesCells]; omega
  · rw [hl]
    simp only [Lib.bytesCells, Array.toList_append, Array.toList_map]
    rw [List.take_append_of_le_length (by simp), List.take_of_length_le (by simp)]
    unfold bcells bcell; rfl
theorem chg_bytes (w : World) (e : TypeId) (s : ByteArray) : Chg (fun _ => False) w (Lib.bytesWorld w e s) :=
  ⟨rfl, rfl, rfl, by rw [Lib.bytesWorld_size]; omega, fun k hk _ => Lib.bytesWorld_at_old w e s k hk⟩

theorem full_any (w : World) (s : ByteArray) (hs : s.size ≤ 32) :
    Calls Try.prog 33 #[.string s] w fun e w' => e = .returned (.string ⟨(pad s.data.toList).toArray⟩) ∧ Chg (fun _ => False) w w' := by
  have kc := fun (w : World) => Lib.run_convert_string_bytes (P := Try.prog) w 9 59 5 s Try.underlying9 Try.underlying59 Try.underlying5
  have M1 := Lib.hid (mrow_bytes w 5 s (by unfold maxLen; omega))
  have C1 := Lib.hid (chg_bytes w 5 s)
  have hsl := (by rw [Array.length_toList]; rfl : s.data.toList.length = s.size)
  have HSL := Lib.hid hsl
  clear hsl
  go_enter Try.func33, Try.ntmps33
  go_wp2
  generalize Lib.bytesWorld w 5 s = w1 at *
  clear kc
  go_loopw [3] (fun v wr => ∃ k : Nat, s.size + k ≤ 32 ∧ MRow wr w.heap.size 5 v (bcells (s.data.toList ++ List.replicate k 0)) ∧ Chg (fun _ => False) w wr) (fun v _ => 32 - slen v)
  case atStart => exact ⟨0, by omega, by simpa using M1.out, C1.out⟩
  case round =>
    obtain ⟨k, hk, hm, hc⟩ := hrel
    have hln : (bcells (s.data.toList ++ List.replicate k 0)).length = s.size + k := by rw [bcells_length, List.length_append, HSL.out, List.length_replicate]
    have HM := Lib.hid hm
    have HC := Lib.hid hc
    have HLN := Lib.hid hln
    obtain ⟨g, cap, rfl⟩ := hm.len
    rw [hln]
    rw [hln] at HM
    clear hm hc hln
    by_cases hlt : s.size + k < 32
    · have hd : decide (((s.size + k : Nat) : Int) < 32) = true := by rw [decide_eq_true_eq]; omega
      go_wp2_with (at_builtin; refine wpList_push_m rfl (.tmp 9) (.tmp 10) 59 rfl 5 1 Try.underlying59 Try.elemByte w.heap.size _ _ rfl (HM.out.chg (chg_alloc (fun _ => False) _ _) (fun _ _ e => e)) _ (.int .u8 0) 5 (0, 0) rfl (obj_alloc_new _ _) rfl ?c1 ?c2 ?c3 ?next)
      case c1 => rw [HLN.out]; omega
      case c2 => rw [HLN.out]; unfold maxLen; omega
      case c3 => have := HC.out.size; simp; omega
      case next =>
        intro v' w2 hm2 hg2
        have e2 : bcells (s.data.toList ++ List.replicate k 0) ++ [.int .u8 0] = bcells (s.data.toList ++ List.replicate (k + 1) 0) := by
          rw [List.replicate_succ', ← List.append_assoc]; unfold bcells; rw [List.map_append (l₁ := s.data.toList ++ List.replicate k 0)]; rfl
        rw [e2] at hm2
        obtain ⟨g2, cap2, rfl⟩ := hm2.len
        have HM2 := Lib.hid hm2
        have K2 := Lib.hid ((HC.out.alloc (.cells #[.int .u8 0] 5)).grown hg2 (fun j hj hl => by have := HM.out.base j hj; omega))
        have ln2 : (bcells (s.data.toList ++ List.replicate (k + 1) 0)).length = s.size + k + 1 := by rw [bcells_length, List.length_append, HSL.out, List.length_replicate]; omega
        have LN2 := Lib.hid ln2
        clear e2 hm2 hg2 ln2
        go_wp2
        go_roundw
        case rel => exact ⟨k + 1, by omega, HM2.out, K2.out⟩
        case measure => simp only [slen, LN2.out]; omega
    · obtain ⟨k, rfl⟩ : ∃ j, k = j := ⟨_, rfl⟩
      have hk2 : k = 32 - s.size := by omega
      have hd : decide (((s.size + k : Nat) : Int) < 32) = false := by rw [decide_eq_false_iff_not]; omega
      have cl := HM.out.cell
      rw [HLN.out] at cl
      obtain ⟨g', cap', he, _, _, _, hcl⟩ := cl
      simp only [Value.slice.injEq, Option.some.injEq, Addr.mk.injEq] at he
      obtain ⟨⟨rfl, _⟩, _, rfl⟩ := he
      have bk0 := run_convert_bytes_back (P := Try.prog) wr 59 9 5 ⟨g, 0, none⟩ cap (s.data.toList ++ List.replicate k 0) Try.underlying59 Try.underlying5 Try.underlying9 (fun j hj => by rw [addr_add, Nat.zero_add]; exact hcl j _ (by unfold bcells bcell; rw [List.getElem?_map, List.getElem?_eq_getElem hj]; rfl))
      simp only [List.length_append, HSL.out, List.length_replicate] at bk0
      have HK := Lib.hid hk2
      clear hcl hk2
      go_wp2
      go_ret
      refine ⟨?_, HC.out⟩
      show Ending.returned (.string ⟨(s.data.toList ++ List.replicate k 0).toArray⟩) = _
      unfold pad
      rw [HSL.out, ← HK.out]
end Go.Proofs.Ytnmgnhhipgiggaa
