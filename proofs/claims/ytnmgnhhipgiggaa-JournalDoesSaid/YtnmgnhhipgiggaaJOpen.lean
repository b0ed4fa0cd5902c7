/-
  Package journal: Open.
-/
import Derived.Test.YtnmgnhhipgiggaaJJour
namespace Go.Proofs.Ytnmgnhhipgiggaa
open Go.RowKit

theorem or_u64 (n c : Nat) (hn : n < 72057594037927936) (hc : c < 256) : bits BinOp.or IntKind.u64 (IntKind.u64.wrap ((n : Int) * 256)) (IntKind.u64.wrap (c : Int)) = ((n * 256 + c : Nat) : Int) := by
  have e1 : IntKind.u64.wrap ((n : Int) * 256) = ((n * 256 : Nat) : Int) := by rw [IntKind.wrap_u64]; omega
  have e2 : IntKind.u64.wrap (c : Int) = (c : Int) := by rw [IntKind.wrap_u64]; omega
  rw [e1, e2, bits_or_u64_nat _ _ (by omega) (by omega), nat_join 8 (n * 256) c (by simp) (by omega)]
theorem wrap_i64of (n : Nat) (hn : n < 18446744073709551616) : IntKind.i64.wrap (n : Int) = i64of n := by
  rw [IntKind.wrap_i64]; unfold i64of; split <;> omega
theorem wrap64_i64of (n : Nat) (hn : n < 18446744073709551616) : wrap64 (n : Int) = i64of n := by
  unfold wrap64 i64of; split <;> omega
theorem pow8 : (256 : Nat) ^ 8 = 18446744073709551616 := by simp
theorem or_i64 (a c : Nat) (ha : a < 256) (hc : c < 256) : bits BinOp.or IntKind.i64 ((a * 256 : Nat) : Int) (c : Int) = ((a * 256 + c : Nat) : Int) := by
  have h1 : (BitVec.ofInt 64 ((a * 256 : Nat) : Int)).toNat = a * 256 := by
    rw [BitVec.ofInt_natCast, BitVec.toNat_ofNat]; exact Nat.mod_eq_of_lt (by omega)
  have h2 : (BitVec.ofInt 64 (c : Int)).toNat = c := by
    rw [BitVec.ofInt_natCast, BitVec.toNat_ofNat]; exact Nat.mod_eq_of_lt (by omega)
  show IntKind.i64.wrap ((BitVec.ofInt 64 ((a * 256 : Nat) : Int) ||| BitVec.ofInt 64 (c : Int)).toNat : Int) = _
  rw [BitVec.toNat_or, h1, h2, nat_join 8 (a * 256) c (by simp) (by omega), IntKind.wrap_i64]
  omega

theorem byte_at (l : List UInt8) (k : Nat) (h : k < l.length) : ∃ x : Nat, x < 256 ∧ Hid ((l.getD k 0).toNat = x) ∧ wrap64 ((({ data := l.toArray } : ByteArray)[k]'(by simpa [ByteArray.size] using h)).toNat : Int) = (x : Int) := by
  refine ⟨(l.getD k 0).toNat, UInt8.toNat_lt _, rfl, ?_⟩
  have e : (({ data := l.toArray } : ByteArray)[k]'(by simpa [ByteArray.size] using h)) = l.getD k 0 := by
    rw [List.getD_eq_getElem?_getD, List.getElem?_eq_getElem h]; rfl
  rw [e]
  have := UInt8.toNat_lt (l.getD k 0)
  unfold wrap64; omega
theorem open_nil (w : World) :
    Calls Try.prog 11 #[.pointer none] w fun e w' => e = .returned (.tuple #[.pointer none, .int .i64 1]) ∧ w = w' := by
  go_enter Try.func11, Try.ntmps11
  go_wp2
  go_ret2
  exact ⟨rfl, rfl⟩

def OpenPost (w : World) (B : DB) (d : Dev) (e : Ending) (w' : World) : Prop :=
  (d.bad ∧ e = .returned (.tuple #[.pointer none, .int .i64 2]) ∧ Chg (fun _ => False) w w') ∨
  (¬ d.bad ∧ ∃ b, e = .returned (.tuple #[jptr b, .int .i64 0]) ∧ JAt w' B b ⟨hnum d.hd, hhalf d.hd, ⟨d.text.toArray⟩⟩ ∧ Chg (fun _ => False) w w' ∧ w.heap.size ≤ b ∧ b < w'.heap.size)

theorem Try.byteInfo : (Try.prog.info? 5).map (fun i => (i.zero, i.size, i.bytes)) = some (some (.int .u8 0), 1, 1) := by kernel_rfl

set_option maxHeartbeats 1000000 in
theorem open_any (w : World) (B : DB) (d : Dev) (h : DevAt w B d) :
    Calls Try.prog 11 #[B.ptr] w (OpenPost w B d) := by
  have c0 := h.c0
  have n65 := h.ok.hi
  have n3 := h.ok.lo
  have H := Lib.hid h; clear h
  unfold DB.ptr
  have s0 := getD_len H.out.ok.wnow (i := 0) (by rw [H.out.ok.lnow]; omega)
  have RD := Lib.hid (read_in w B d 0 H.out (by omega))
  have hm : d.m = (B.n - 1) / 2 := by unfold Dev.m; rw [H.out.ok.lnow]
  have HM := Lib.hid hm
  change (d.hd).length = 32 at s0
  change Hid (Calls Try.prog 27 #[B.ptr, .int .i64 0] w fun e w' => e = .returned (.string ⟨(d.hd).toArray⟩) ∧ w = w') at RD
  generalize hhd : d.hd = hd at *
  have HHD := Lib.hid hhd
  clear hm hhd
  go_enter Try.func11, Try.ntmps11
  go_wp2_with fail
  refine (has_yes _ _ _ _ _ _ _ c0 (by omega) (by omega)).mono ?_
  rintro e w' ⟨rfl, rfl⟩
  go_wp2_with fail
  refine (RD.out).mono ?_
  rintro e w' ⟨rfl, rfl⟩
  go_wp2
  go_loop [5, 20] (fun x i => ∃ k : Nat, k ≤ 8 ∧ i = .int .i64 k ∧ x = .int .u64 (be (hd.take k))) (fun _ i => 8 - (intOf i).toNat)
  case atStart => exact ⟨0, by omega, rfl, by simp [be]⟩
  case round =>
    obtain ⟨k, hk, rfl, rfl⟩ := hrel
    have lt0 := be_lt (hd.take k)
    rw [List.length_take] at lt0
    have lt1 : be (hd.take k) < 256 ^ k := Nat.lt_of_lt_of_le lt0 (Nat.pow_le_pow_right (by decide) (by omega))
    by_cases hlt : k < 8
    · have lt2 : be (hd.take k) < 72057594037927936 := Nat.lt_of_lt_of_le lt1 (Nat.le_trans (Nat.pow_le_pow_right (by decide) (by omega : k ≤ 7)) (by decide))
      have sn := be_snoc (hd.take k) (hd[k]'(by omega))
      rw [← List.take_succ_eq_append_getElem] at sn
      have SN := Lib.hid sn
      have LT := Lib.hid lt2
      clear sn lt0 lt1 lt2
      generalize be (hd.take k) = n at *
      go_wp2
      go_round
      case rel =>
        refine ⟨k + 1, by omega, by go_num, ?_⟩
        rw [SN.out]
        exact congrArg (Value.int .u64) (or_u64 n _ LT.out (UInt8.toNat_lt _))
      case measure => simp [intOf]; omega
    · obtain rfl : k = 8 := by omega
      have hnum8 : wrap64 (be (hd.take 8) : Int) = hnum hd := by
        rw [pow8] at lt1
        exact wrap64_i64of _ lt1
      have HN := Lib.hid hnum8
      clear lt0 lt1 hnum8
      generalize hn : be (hd.take 8) = n at *
      clear hn
      obtain ⟨x8, q8, HX8, e8⟩ := byte_at hd 8 (by omega)
      obtain ⟨x9, q9, HX9, e9⟩ := byte_at hd 9 (by omega)
      obtain ⟨x10, q10, HX10, e10⟩ := byte_at hd 10 (by omega)
      have e9' := e9
      have e10' := e10
      unfold wrap64 at e9' e10'
      rw [← IntKind.wrap_i64] at e9' e10'
      have m9 : IntKind.i64.wrap ((x9 : Int) * 256) = (x9 : Int) * 256 := by rw [IntKind.wrap_i64]; omega
      obtain ⟨sz, hsz, o1⟩ : ∃ sz : Nat, Hid (hsize hd = sz) ∧ bits BinOp.or IntKind.i64 ((x9 : Int) * 256) (x10 : Int) = (sz : Int) :=
        ⟨x9 * 256 + x10, by show hsize hd = _; unfold hsize; rw [HX9.out, HX10.out], by rw [show ((x9 : Int) * 256) = ((x9 * 256 : Nat) : Int) from by omega]; exact or_i64 x9 x10 q9 q10⟩
      have hszl : sz < 65536 := by have := hsize_lt hd; rw [hsz.out] at this; exact this
      have HBAD := Lib.hid (show d.bad ↔ (1 < x8 ∨ (B.n - 1) / 2 * 32 < sz) by unfold Dev.bad; rw [HHD.out, HM.out, hsz.out, show hhalf hd = x8 from HX8.out])
      go_wp2
      obtain ⟨w1, hw1⟩ : ∃ w1, w1 = w.alloc (.cells #[.pointer (some ⟨B.b, 0, none⟩), .int .i64 (wrap64 n), .int .i64 x8, .string ⟨#[]⟩] 68) := ⟨_, rfl⟩
      rw [← hw1]
      have k1 : Chg (fun _ => False) w w1 := by rw [hw1]; exact chg_alloc _ _ _
      have j1 : w1.heap[w.heap.size]? = some (.cells #[.pointer (some ⟨B.b, 0, none⟩), .int .i64 (wrap64 n), .int .i64 x8, .string ⟨#[]⟩] 68 (0, 0)) := by rw [hw1]; exact obj_alloc_new _ _
      have K1 := Lib.hid k1
      have J1 := Lib.hid j1
      clear hw1 k1 j1
      refine wp_still_drew (by kernel_rfl) (by kernel_rfl) ?_
      repeat still_step
      refine wpStill_nil ?_
      have K2 := Lib.hid K1.out.drew
      have J2 : Hid (w1.drew.heap[w.heap.size]? = _) := Lib.hid J1.out
      have D2 := Lib.hid (H.out.chg K2.out (fun _ _ e => e))
      clear K1 J1
      generalize w1.drew = w2 at *
      have d0 := D2.out.c0
      have j0 : w2.cell? ⟨w.heap.size, 0, none⟩ = some (.pointer (some ⟨B.b, 0, none⟩)) := cell_of J2.out rfl
      have j2 : w2.cell? ⟨w.heap.size, 2, none⟩ = some (.int .i64 x8) := cell_of J2.out rfl
      by_cases h1 : 1 < x8
      · go_wp2
        go_ret2
        exact .inl ⟨HBAD.out.2 (.inl h1), rfl, K2.out⟩
      · have hh1 : decide (1 < (x8 : Int)) = false := by simp; omega
        have ROOM := Lib.hid (room_at w2 w.heap.size B j0 d0 n3 n65)
        have hle : (B.n - 1) / 2 ≤ 32 := by omega
        generalize hms : (B.n - 1) / 2 = m at *
        go_wp2_with fail
        refine (ROOM.out).mono ?_
        rintro e w' ⟨rfl, rfl⟩
        by_cases h2 : m * 32 < sz
        · go_wp2
          go_ret2
          exact .inl ⟨HBAD.out.2 (.inr h2), rfl, K2.out⟩
        · have hh2 : decide (((m * 32 : Nat) : Int) < (sz : Int)) = false := by simp; omega
          have hm1 : 1 ≤ m := by omega
          obtain ⟨i5, hi5, z50, z51, z52⟩ := info_parts Try.byteInfo
          have SEC := Lib.hid (sectors_at w2 w.heap.size B j0 d0 n3 n65)
          rw [hms] at SEC
          have HMS := Lib.hid hms
          clear hms
          have kz := K2.out.size
          have jz := lt_of_obj J2.out
          go_wp2_with fail
          refine (ROOM.out).mono ?_
          rintro e w' ⟨rfl, rfl⟩
          go_wp2_with (at_make; refine wpList_make_own _ rfl (.const (.int .i64 0)) (.tmp 59) 59 rfl w2.heap.size 5 i5 _ 1 Try.underlying59 hi5 z50 z51 _ _ _ (m * 32) rfl rfl rfl ?b2 ?b3 (Nat.le_refl _) ?next)
          case b2 => rw [z52]; omega
          case b3 => unfold maxLen; omega
          case next =>
            intro w3 own3 g3
            have K3 := Lib.hid (K2.out.grown g3 (fun k e => by cases e))
            have C3 := Lib.hid (Chg.of_grown g3)
            have J3 := Lib.hid (C3.out.obj (fun e => by cases e) J2.out)
            have D3 := Lib.hid (D2.out.chg C3.out (fun _ _ e => by cases e))
            have O3 := Lib.hid own3
            have SEC3 := Lib.hid (sectors_at w3 w.heap.size B (cell_of J3.out rfl) D3.out.c0 n3 n65)
            rw [HMS.out] at SEC3
            have wz := g3.size
            clear own3 g3 j0 j2 d0 SEC ROOM
            go_wp2_with fail
            refine (SEC3.out).mono ?_
            rintro e w' ⟨rfl, rfl⟩
            go_wp2
            go_loopw [9, 63] (fun v i wr => ∃ k : Nat, k ≤ m ∧ i = .int .i64 k ∧ wr.ownsRow w2.heap.size 5 1 v (32 * k) (bcells (d.areaTo x8 k)) ∧ Chg (fun k => w2.heap.size ≤ k) w3 wr) (fun _ i _ => m - (intOf i).toNat)
            case atStart => exact ⟨0, Nat.zero_le _, rfl, by simpa [Dev.areaTo, bcells] using O3.out, Chg.refl _ _⟩
            case round =>
              obtain ⟨k, hk, rfl, hown, hc⟩ := hrel
              have HO := Lib.hid hown
              have HC := Lib.hid hc
              have JR := Lib.hid (HC.out.obj (by omega) J3.out)
              have DR := Lib.hid (D3.out.chg HC.out (fun k hk hk' => by
                have : k < w.heap.size := by
                  rcases hk with rfl | rfl | rfl | rfl
                  · exact lt_of_obj H.out.hb
                  · exact lt_of_obj H.out.hn
                  · exact lt_of_obj H.out.hs
                  · exact lt_of_obj H.out.hp
                omega))
              clear hown hc
              by_cases hlt : k < m
              · have j2 : wr.cell? ⟨w.heap.size, 2, none⟩ = some (.int .i64 x8) := cell_of JR.out rfl
                have FST := Lib.hid (first_at wr w.heap.size B x8 (cell_of JR.out rfl) DR.out.c0 n3 n65 (by omega) (by omega))
                rw [HMS.out] at FST
                have hx8 : x8 * m ≤ m := by rcases (by omega : x8 = 0 ∨ x8 = 1) with rfl | rfl <;> omega
                have READ := Lib.hid (read_in wr B d (1 + x8 * m + k) DR.out (by have := HMS.out; omega))
                have AR := Lib.hid (Dev.areaTo_succ d x8 k)
                rw [HM.out] at AR
                have LN := Lib.hid (getD_len D3.out.ok.wnow (i := 1 + x8 * m + k) (by rw [D3.out.ok.lnow]; have := HMS.out; omega))
                have px : (x8 : Int) * (m : Int) = ((x8 * m : Nat) : Int) := by push_cast; rfl
                rw [px] at FST
                generalize x8 * m = p at *
                clear px
                go_wp2_with fail
                refine (FST.out).mono ?_
                rintro e w' ⟨rfl, rfl⟩
                go_wp2_with fail
                rw [show ((1 : Int) + (p : Int) + (k : Int)) = ((1 + p + k : Nat) : Int) from by omega]
                refine (READ.out).mono ?_
                rintro e w' ⟨rfl, rfl⟩
                generalize d.now.getD (1 + p + k) [] = sec at *
                have hsz' : (⟨sec.toArray⟩ : ByteArray).size = 32 := by simpa [ByteArray.size] using LN.out
                have HSZ := Lib.hid hsz'
                clear hsz'
                go_wp2_with (at_builtin; refine wpList_push_string rfl (.tmp 66) (.tmp 76) 59 9 rfl 5 Try.underlying59 Try.underlying9 Try.byteInfo w2.heap.size _ _ _ rfl HO.out ⟨sec.toArray⟩ rfl ?p1 ?p2 ?next2)
                case p1 => rw [HSZ.out]; omega
                case p2 => have := HC.out.size; omega
                case next2 =>
                  intro v' w4 own4 g4
                  have O4 := Lib.hid own4
                  have G4 := Lib.hid g4
                  clear own4 g4
                  go_wp2
                  go_roundw
                  case rel =>
                    refine ⟨k + 1, by omega, by go_num, ?_, HC.out.grown G4.out (fun j hj _ => (own_lt HO.out j hj).1)⟩
                    have := O4.out
                    rw [LN.out] at this
                    rw [AR.out, show 32 * (k + 1) = 32 * k + 32 from by omega]
                    simpa [bcells] using this
                  case measure => simp [intOf]; omega
              · obtain rfl : k = m := by omega
                obtain ⟨g, cap, rfl, hg, hcap, hcm, hcell⟩ := own_slice HO.out (by omega)
                have la := Dev.areaTo_length D3.out.ok x8 (by omega) k (by rw [HM.out]; exact Nat.le_refl _)
                have hcv := run_convert_bytes_arg (P := Try.prog) wr 59 5 Try.underlying59 Try.underlying5 g 0 sz cap ((((d.areaTo x8 k).take sz)).map fun c => (c.toNat : Int)) (by rw [List.length_map, List.length_take]; omega)
                  (fun i hi => by
                    rw [Nat.zero_add]
                    refine hcell i _ ?_
                    have e : (bcells (d.areaTo x8 k))[i]? = (bcells ((d.areaTo x8 k).take sz))[i]? := by
                      unfold bcells; rw [List.map_take, List.getElem?_take, if_pos hi]
                    rw [e]; exact bcells_get _ _ (by rw [List.length_take]; omega)) 9 Try.underlying9
                rw [strOfNums_bytes] at hcv
                have TX := Lib.hid (show (d.areaTo x8 k).take sz = d.text by unfold Dev.text Dev.area; rw [HHD.out, HM.out, hsz.out, show hhalf hd = x8 from HX8.out])
                unfold maxLen at hcm
                have j3 : wr.cell? ⟨w.heap.size, 3, none⟩ = some (.string ⟨#[]⟩) := cell_of JR.out rfl
                have f3 : wr.frozen? ⟨w.heap.size, 3, none⟩ = false := frozen_of JR.out
                have HLA := Lib.hid la
                clear hcell la
                generalize (d.areaTo x8 k).take sz = tx at *
                go_wp2
                go_ret2
                have k4 : Chg (fun _ => False) w wr := ⟨HC.out.os.trans K3.out.os, HC.out.tape.trans K3.out.tape, HC.out.output.trans K3.out.output, Nat.le_trans K3.out.size HC.out.size,
                  fun i hi _ => by rw [HC.out.block i (by have := K3.out.size; omega) (by omega)]; exact K3.out.block i hi (fun e => e)⟩
                have kk : Chg (fun _ => False) w (wr.setCell ⟨w.heap.size, 3, none⟩ (.string ⟨tx.toArray⟩)) := k4.setCell (fun e => absurd e (Nat.lt_irrefl _)) _
                refine .inr ⟨fun hb => ?_, w.heap.size, rfl, ⟨?_⟩, kk, Nat.le_refl _, ?_⟩
                · rcases HBAD.out.1 hb with h | h <;> omega
                · rw [obj_setCell JR.out]
                  rw [HHD.out, ← HN.out, ← TX.out, show hhalf hd = x8 from HX8.out]; rfl
                · have := lt_of_obj JR.out; simpa [World.setCell] using this
end Go.Proofs.Ytnmgnhhipgiggaa
