/-
  The device of package journal: Write.
-/
import Derived.Test.YtnmgnhhipgiggaaJDev
namespace Go.Proofs.Ytnmgnhhipgiggaa
open Go.RowKit

theorem Try.zero5 (w : World) : (zeroValue 5).run Try.prog w = .ok (.int .u8 0) w := by kernel_rfl
theorem Try.zero4 (w : World) : (zeroValue 4).run Try.prog w = .ok (.bool false) w := by kernel_rfl
theorem Try.size5 : (Try.prog.info? 5).map (·.size) = some 1 := by kernel_rfl

theorem secs_length {l : List (List UInt8)} (h : ∀ s ∈ l, s.length = 32) : (secs l).length = 32 * l.length := by unfold secs; rw [bcells_length, flatten_length h]
theorem bools_get {l : List Bool} {k : Nat} (h : k < l.length) : (bools l).toArray[k]? = some (.bool (l.getD k false)) := by
  simp [bools, List.getElem?_eq_getElem h]
theorem bools_set (l : List Bool) (k : Nat) (b : Bool) : (bools l).toArray.setIfInBounds k (.bool b) = (bools (l.set k b)).toArray := by
  simp [bools, List.map_set]
theorem splice_pad (l : List UInt8) (o : Nat) (s : List UInt8) (hs : s.length ≤ 32) (ho : o + 32 ≤ l.length) :
    splice (splice (bcells l) o (reps 32 (.int .u8 0))) o (bcells s) = bcells (l.take o ++ (pad s ++ l.drop (o + 32))) := by
  have z : reps 32 (Value.int .u8 0) = bcells zsec := by simp [reps, bcells, zsec]; rfl
  rw [z]
  unfold splice bcells
  simp only [← List.map_take, ← List.map_drop, ← List.map_append, List.length_map]
  congr 1
  have h1 : (l.take o).length = o := by simp; omega
  rw [List.take_append_of_le_length (by omega), List.take_of_length_le (by omega), zsec_length]
  congr 1
  unfold pad
  rw [List.append_assoc]
  congr 1
  rw [List.drop_append, h1, List.drop_of_length_le (by omega), List.nil_append, show o + s.length - o = s.length from by omega, List.drop_append, zsec_length,
    show s.length - 32 = 0 from by omega, List.drop_zero]
  congr 1
  unfold zsec; rw [List.drop_replicate]

theorem write_dead (w : World) (B : DB) (d : Dev) (i : Int) (s : ByteArray) (h : DevAt w B d) (hd : d.dead = true) :
    Calls Try.prog 20 #[B.ptr, .int .i64 i, .string s] w fun e w' => e = .returned (.int .i64 20) ∧ w = w' := by
  have c5 := h.c5
  rw [hd] at c5
  clear h hd
  unfold DB.ptr
  go_enter Try.func20, Try.ntmps20
  go_wp2
  go_ret
  exact ⟨rfl, rfl⟩
theorem write_range (w : World) (B : DB) (d : Dev) (i : Int) (s : ByteArray) (h : DevAt w B d) (hd : d.dead = false) (hi : i < 0 ∨ B.n ≤ i) :
    Calls Try.prog 20 #[B.ptr, .int .i64 i, .string s] w fun e w' => e = .returned (.int .i64 5) ∧ w = w' := by
  have c0 := h.c0
  have c5 := h.c5
  rw [hd] at c5
  have HI := Lib.hid hi
  clear h hd hi
  unfold DB.ptr
  go_enter Try.func20, Try.ntmps20
  go_wp2_with fail
  refine (has_no _ _ _ _ _ _ _ c0 HI.out).mono ?_
  rintro e w' ⟨rfl, rfl⟩
  go_wp2
  go_ret
  exact ⟨rfl, rfl⟩
theorem write_size (w : World) (B : DB) (d : Dev) (i : Int) (s : ByteArray) (h : DevAt w B d) (hd : d.dead = false) (h0 : 0 ≤ i) (h1 : i < B.n) (hs : 32 < s.size) (hm : s.size ≤ maxLen) :
    Calls Try.prog 20 #[B.ptr, .int .i64 i, .string s] w fun e w' => e = .returned (.int .i64 4) ∧ w = w' := by
  have c0 := h.c0
  have c5 := h.c5
  rw [hd] at c5
  clear h hd
  unfold maxLen at hm
  unfold DB.ptr
  go_enter Try.func20, Try.ntmps20
  go_wp2_with fail
  refine (has_yes _ _ _ _ _ _ _ c0 h0 h1).mono ?_
  rintro e w' ⟨rfl, rfl⟩
  go_wp2
  go_ret
  exact ⟨rfl, rfl⟩
theorem write_stop (w : World) (B : DB) (d : Dev) (i : Int) (s : ByteArray) (h : DevAt w B d) (hd : d.dead = false) (h0 : 0 ≤ i) (h1 : i < B.n) (hs : s.size ≤ 32) (hst : d.stops = true) :
    Calls Try.prog 20 #[B.ptr, .int .i64 i, .string s] w fun e w' => e = .returned (.int .i64 20) ∧ DevAt w' B d.burnt ∧ Chg B.S w w' := by
  have c0 := h.c0
  have c5 := h.c5
  rw [hd] at c5
  have H := Lib.hid h
  have HST := Lib.hid hst
  clear h hd hst
  unfold DB.ptr
  go_enter Try.func20, Try.ntmps20
  go_wp2_with fail
  refine (has_yes _ _ _ _ _ _ _ c0 h0 h1).mono ?_
  rintro e w' ⟨rfl, rfl⟩
  go_wp2_with fail
  refine (burn_stop _ B d H.out HST.out).mono ?_
  rintro e w1 ⟨rfl, d1, k1⟩
  have D1 := Lib.hid d1
  have K1 := Lib.hid k1
  clear d1 k1
  go_wp2
  go_ret
  exact ⟨rfl, D1.out, K1.out.mono (fun k _ e => .inl e)⟩

theorem write_go (w : World) (B : DB) (d : Dev) (k : Nat) (s : ByteArray) (h : DevAt w B d) (hd : d.dead = false) (h1 : k < B.n) (hs : s.size ≤ 32) (hst : d.stops = false) :
    Calls Try.prog 20 #[B.ptr, .int .i64 k, .string s] w fun e w' => e = .returned (.int .i64 0) ∧ DevAt w' B (d.burnt.put k s.data.toList) ∧ Chg B.S w w' := by
  have c0 := h.c0
  have c5 := h.c5
  have n65 := h.ok.hi
  rw [hd] at c5
  have H := Lib.hid h
  have HST := Lib.hid hst
  clear h hd hst
  unfold DB.ptr
  go_enter Try.func20, Try.ntmps20
  go_wp2_with fail
  refine (has_yes _ _ _ _ _ _ _ c0 (by omega) (by omega)).mono ?_
  rintro e w' ⟨rfl, rfl⟩
  go_wp2_with fail
  refine (burn_go _ B d H.out HST.out).mono ?_
  rintro e w1 ⟨rfl, d1, k1⟩
  clear c0 c5
  have c0 := d1.c0
  have D1 := Lib.hid d1
  have K1 := Lib.hid k1
  clear d1 k1
  go_wp2_with (with_reducible refine wpList_clear rfl (.tmp 33) 59 rfl 5 Try.underlying59 (.int .u8 0) Try.zero5 rfl rfl B.bn _ 32 32 rfl (secs d.burnt.now) 71 D1.out.hn ?fit (by decide) ?next)
  case fit => have := D1.out.ok; rw [secs_length this.wnow, this.lnow]; omega
  case next =>
    intro w2 r2
    have c0' : w2.cell? ⟨B.b, 0, none⟩ = some (.slice (some ⟨B.bn, 0, none⟩) B.n B.n) := cell_of (r2.chg.obj (fun e => D1.out.n1 e) D1.out.hb) rfl
    have R2 := Lib.hid r2; clear r2 c0
    go_wp2_with (with_reducible refine wpList_copy_string rfl (.tmp 40) (.tmp 41) 59 9 rfl 5 Try.underlying59 Try.size5 B.bn _ 32 32 s rfl rfl _ 71 R2.out.row hs ?fit2 ?next2)
    case fit2 =>
      have := D1.out.ok
      rw [length_splice _ _ _ (by rw [reps_length, secs_length this.wnow, this.lnow]; omega), secs_length this.wnow, this.lnow]; omega
    case next2 =>
      intro w3 r3
      have c2 : w3.cell? ⟨B.b, 2, none⟩ = some (.slice (some ⟨B.bp, 0, none⟩) B.n B.n) := cell_of (r3.chg.obj (fun e => D1.out.n1 e) (R2.out.chg.obj (fun e => D1.out.n1 e) D1.out.hb)) rfl
      have hp : w3.heap[B.bp]? = some (.cells (bools d.burnt.pend).toArray 4 (0, 0)) := r3.chg.obj (fun e => D1.out.n5 e.symm) (R2.out.chg.obj (fun e => D1.out.n5 e.symm) D1.out.hp)
      have cp : w3.cell? ⟨B.bp, k, none⟩ = some (.bool (d.burnt.pend.getD k false)) := cell_of hp (bools_get (by rw [D1.out.ok.lpend]; exact h1))
      have fp : w3.frozen? ⟨B.bp, k, none⟩ = false := frozen_of hp
      have HP := Lib.hid hp
      have R3 := Lib.hid r3; clear r3 hp c0'
      go_wp2
      go_ret
      have d1 := D1.out
      have r2 := R2.out.chg
      have r3 := R3.out.chg
      have q := chg_cell w3 B.bp k (.bool true)
      refine ⟨rfl, ⟨?_, ?_, ?_, ?_, d1.ok.put _ _ hs, d1.n1, d1.n2, d1.n3, d1.n4, d1.n5, d1.n6⟩, ?_⟩
      · exact q.obj (fun e => d1.n3 e) (r3.obj (fun e => d1.n1 e) (r2.obj (fun e => d1.n1 e) d1.hb))
      · have e := R3.out.row
        unfold secs at e
        rw [splice_pad _ _ _ hs (by rw [flatten_length d1.ok.wnow, d1.ok.lnow]; omega), show k * 32 = 32 * k from by omega, ← flatten_set d1.ok.wnow (by rw [d1.ok.lnow]; exact h1)] at e
        exact q.obj (fun e => d1.n5 e) e
      · exact q.obj (fun e => d1.n6 e) (r3.obj (fun e => d1.n4 e.symm) (r2.obj (fun e => d1.n4 e.symm) d1.hs))
      · rw [obj_setCell HP.out, bools_set]; rfl
      · exact (K1.out.mono (fun k _ e => .inl e)).trans (((r2.mono (fun k _ e => .inr (.inl e))).trans (r3.mono (fun k _ e => .inr (.inl e)))).trans (q.mono (fun k _ e => .inr (.inr (.inr e)))))
end Go.Proofs.Ytnmgnhhipgiggaa
