/-
  The device of package journal: Pending, Crash, Device.
-/
import Derived.Test.YtnmgnhhipgiggaaJDev3
namespace Go.Proofs.Ytnmgnhhipgiggaa
open Go.RowKit

theorem Try.elem3 : ElemInfo Try.prog 3 1 8 := elemInfo_of (z := .int .i64 0) (by kernel_rfl) rfl (by decide)
def ints (l : List Nat) : List Value := l.map fun (n : Nat) => .int .i64 (n : Int)
theorem pendTo_succ (p : List Bool) (k : Nat) : pendTo p (k + 1) = if p.getD k false then pendTo p k ++ [k] else pendTo p k := by
  unfold pendTo
  rw [List.range_succ, List.filter_append]
  by_cases h : p.getD k false = true
  · rw [if_pos h]; simp only [List.filter_cons, h, if_true, List.filter_nil]
  · rw [if_neg h]; simp only [List.filter_cons, if_neg h, List.filter_nil, List.append_nil]
theorem pendTo_length (p : List Bool) (k : Nat) : (pendTo p k).length ≤ k := by
  have := List.length_filter_le (fun i => p.getD i false) (List.range k)
  simpa [pendTo] using this

theorem pending_any (w : World) (B : DB) (d : Dev) (h : DevAt w B d) :
    Calls Try.prog 24 #[B.ptr] w fun e w' => ∃ v, e = .returned v ∧ w'.ownsRow w.heap.size 3 1 v d.pending.length (ints d.pending) ∧ Chg (fun _ => False) w w' := by
  have c2 := h.c2
  have n65 := h.ok.hi
  have lp := h.ok.lpend
  have HLP := Lib.hid lp
  have H := Lib.hid h; clear h lp
  unfold DB.ptr
  go_enter Try.func24, Try.ntmps24
  go_wp2
  go_loopw [3, 11] (fun v i wr => ∃ k : Nat, k ≤ B.n ∧ i = .int .i64 k ∧ wr.ownsRow w.heap.size 3 1 v (pendTo d.pend k).length (ints (pendTo d.pend k)) ∧ Chg (fun _ => False) w wr) (fun _ i _ => B.n - (intOf i).toNat)
  case atStart => exact ⟨0, Nat.zero_le _, rfl, World.ownsRow_nil _ _ _ _, Chg.refl _ _⟩
  case round =>
    obtain ⟨k, hk, rfl, hown, hc⟩ := hrel
    have HO := Lib.hid hown
    have HC := Lib.hid hc
    clear hown hc
    by_cases hlt : k < B.n
    · have d1 := H.out.chg HC.out (fun _ _ e => e)
      have cp := cell_of d1.hp (bools_get (l := d.pend) (k := k) (by rw [HLP.out]; exact hlt))
      have sc := pendTo_succ d.pend k
      have sl := pendTo_length d.pend k
      clear d1
      by_cases hp : d.pend.getD k false = true
      · rw [hp] at cp
        rw [if_pos hp] at sc
        have SC := Lib.hid sc
        clear hp sc
        go_wp2_with (at_builtin; refine wpList_push rfl (.tmp 17) (.tmp 19) 44 rfl 3 1 8 Try.underlying44 Try.elem3 w.heap.size _ _ _ rfl (HO.out.alloc _) _ [.int .i64 k] 3 (0, 0) rfl (obj_alloc_new _ _) rfl ?c1 ?c2 ?c3 ?c4 ?next)
        case c1 => intro u hu; simp at hu; subst hu; rfl
        case c2 => omega
        case c3 => unfold maxLen; omega
        case c4 => have := HC.out.size; simp; omega
        case next =>
          intro v' w1 ho1 hg1
          have HO1 := Lib.hid ho1
          have HG1 := Lib.hid hg1
          clear ho1 hg1
          go_wp2
          go_roundw
          case rel =>
            refine ⟨k + 1, by omega, by go_num, ?_, ?_⟩
            · rw [SC.out]; simpa [ints] using HO1.out
            · exact (HC.out.alloc _).grown HG1.out (fun j hj hl => by have := own_lt HO.out j hj; omega)
          case measure => simp [intOf]; omega
      · have hp : d.pend.getD k false = false := by simpa using hp
        rw [hp] at cp
        rw [if_neg (by rw [hp]; decide)] at sc
        have SC := Lib.hid sc
        clear hp sc
        go_wp2
        go_roundw
        case rel => exact ⟨k + 1, by omega, by go_num, by rw [SC.out]; exact HO.out, HC.out⟩
        case measure => simp [intOf]; omega
    · obtain rfl : k = B.n := by omega
      go_wp2
      go_ret
      refine ⟨_, rfl, ?_, HC.out⟩
      unfold Dev.pending; rw [HLP.out]; exact HO.out
/-- A slice of bools, to be read. -/
def BoolsAt (w : World) (v : Value) (G : Nat → Prop) (keep : List Bool) : Prop :=
  ∃ ka cap, v = .slice ka keep.length cap ∧ keep.length ≤ maxLen ∧ ∀ j, j < keep.length → ∃ kb ko, ka = some ⟨kb, ko, none⟩ ∧ G kb ∧ w.cell? ⟨kb, ko + j, none⟩ = some (.bool (keep.getD j false))
theorem cell_chg {S : Nat → Prop} {w w' : World} {b o : Nat} {v : Value} (hc : Chg S w w') (hs : ¬ S b) (h : w.cell? ⟨b, o, none⟩ = some v) : w'.cell? ⟨b, o, none⟩ = some v := by
  rw [← h]; exact World.cell?_of_block (w := w) (hc.block b (World.block_lt_of_cell? w _ h) hs)
theorem BoolsAt.chg {S : Nat → Prop} {w w' : World} {v : Value} {G : Nat → Prop} {keep : List Bool} (h : BoolsAt w v G keep) (hc : Chg S w w') (hs : ∀ k, G k → ¬ S k) : BoolsAt w' v G keep := by
  obtain ⟨ka, cap, h1, h2, h3⟩ := h
  exact ⟨ka, cap, h1, h2, fun j hj => by obtain ⟨kb, ko, q1, q2, q3⟩ := h3 j hj; exact ⟨kb, ko, q1, q2, cell_chg hc (hs kb q2) q3⟩⟩
theorem boolsAt_nil (w : World) (G : Nat → Prop) : BoolsAt w (.slice none 0 0) G [] := ⟨none, 0, rfl, by simp, fun j hj => by simp at hj⟩
theorem DevAt.now {w w' : World} {B : DB} {d : Dev} (h : DevAt w B d) {l : List (List UInt8)} (hr : RowSet B.bn (secs l) 71 w w') (ok : Dev.Ok B.n { d with now := l }) : DevAt w' B { d with now := l } :=
  ⟨hr.chg.obj (fun e => h.n1 e) h.hb, hr.row, hr.chg.obj (fun e => h.n4 e.symm) h.hs, hr.chg.obj (fun e => h.n5 e.symm) h.hp, ok, h.n1, h.n2, h.n3, h.n4, h.n5, h.n6⟩

theorem secs_set {l m : List (List UInt8)} (h : ∀ s ∈ l, s.length = 32) (h' : ∀ s ∈ m, s.length = 32) {k : Nat} (hk : k < l.length) (hk' : k < m.length) :
    splice (secs l) (k * 32) (((secs m).drop (k * 32)).take 32) = secs (l.set k (m.getD k [])) := by
  have e : ((secs m).drop (k * 32)).take 32 = bcells (m.getD k []) := by
    rw [flatten_get h' hk']; unfold secs bcells; rw [← List.map_drop, ← List.map_take, show k * 32 = 32 * k from by omega]
  rw [e]
  unfold splice secs
  rw [flatten_set h hk, bcells_length, getD_len h' hk']
  unfold bcells
  rw [List.map_append, List.map_append, List.map_take, List.map_drop, show k * 32 = 32 * k from by omega]

set_option maxHeartbeats 1000000 in
theorem crash_any (w : World) (B : DB) (d : Dev) (keep : List Bool) (v : Value) (G : Nat → Prop) (h : DevAt w B d) (hG : ∀ k, G k → ¬ B.S k) (hkv : BoolsAt w v G keep) :
    Calls Try.prog 16 #[B.ptr, v] w fun e w' => e = .returned (.tuple #[]) ∧ DevAt w' B (d.crash keep) ∧ Chg B.S w w' := by
  obtain ⟨ka, cap, rfl, hkl, hka⟩ := hkv
  have c2 := h.c2
  have n65 := h.ok.hi
  have lp := h.ok.lpend
  have HKA := Lib.hid hka
  unfold maxLen at hkl
  have HLP := Lib.hid lp
  have H := Lib.hid h; clear h lp hka
  unfold DB.ptr
  go_enter Try.func16, Try.ntmps16
  go_wp2
  go_loopw [4, 12] (fun c i wr => ∃ k : Nat, k ≤ B.n ∧ i = .int .i64 k ∧ c = .int .i64 (cnt d.pend k) ∧ DevAt wr B { d with now := crashMid d keep k } ∧ Chg B.S w wr) (fun _ i _ => B.n - (intOf i).toNat)
  case atStart => exact ⟨0, Nat.zero_le _, rfl, by rw [cnt_zero]; rfl, by rw [crashMid_zero]; exact H.out, Chg.refl _ _⟩
  case round =>
    obtain ⟨k, hk, rfl, rfl, hd, hc⟩ := hrel
    have HD := Lib.hid hd
    have HC := Lib.hid hc
    have cl := cnt_le d.pend k
    clear hd hc
    by_cases hlt : k < B.n
    · have cp := cell_of HD.out.hp (bools_get (l := d.pend) (k := k) (by rw [HLP.out]; exact hlt))
      have cs := cnt_succ d.pend k (by rw [HLP.out]; exact hlt)
      by_cases hp : d.pend.getD k false = true
      · rw [hp] at cp
        rw [hp, if_pos rfl] at cs
        have CS := Lib.hid cs
        clear cs
        have c0 := HD.out.c0
        have c1 := HD.out.c1
        by_cases hkk : cnt d.pend k < keep.length
        · obtain ⟨kb, ko, rfl, hkb, ck0⟩ := HKA.out _ hkk
          have ck := cell_chg HC.out (hG kb hkb) ck0
          clear ck0
          have hge : decide ((keep.length : Int) ≤ (cnt d.pend k : Int)) = false := by simp; omega
          by_cases hkp : keep.getD (cnt d.pend k) false = true
          · have SM := Lib.hid (crashMid_same d keep k (by rw [hkp]; simp))
            rw [hkp] at ck
            clear hp hkp
            go_wp2
            go_roundw
            case rel => exact ⟨k + 1, by omega, by go_num, by rw [CS.out]; go_num, by rw [SM.out]; exact HD.out, HC.out⟩
            case measure => simp [intOf]; omega
          · have hkp : keep.getD (cnt d.pend k) false = false := by simpa using hkp
            rw [hkp] at ck
            have SM := Lib.hid (crashMid_set d keep k (by rw [hkp, hp]; rfl))
            clear hp hkp
            go_wp2
            go_still_tail 13, (by kernel_rfl)
            have HD' := Lib.hid (HD.out.chg (chg_drew (fun _ => False) wr) (fun _ _ e => e))
            have ls := H.out.ok.lsure
            have ws := H.out.ok.wsure
            have lm : (crashMid d keep k).length = B.n := HD.out.ok.lnow
            have wm : ∀ s ∈ crashMid d keep k, s.length = 32 := HD.out.ok.wnow
            have fit1 : k * 32 + 32 ≤ (secs d.sure).length := by rw [secs_length ws, ls]; omega
            have fit2 : k * 32 + 32 ≤ (secs (crashMid d keep k)).length := by rw [secs_length wm, lm]; omega
            refine wpStill_load_seg rfl 71 (.tmp 40) rfl B.bs (k * 32) 32 rfl 71 (secs d.sure) (0, 0) _ HD'.out.hs Try.underlying71 rfl Try.size71 fit1 ?_
            have e1 := secs_set wm ws (k := k) (by rw [lm]; exact hlt) (by rw [ls]; exact hlt)
            have l1 : (((secs d.sure).drop (k * 32)).take 32).length = 32 := by simp; omega
            have o1 : ∀ v ∈ ((secs d.sure).drop (k * 32)).take 32, v.oneCell' = true := fun v hv => bcells_one _ v (List.mem_of_mem_drop (List.mem_of_mem_take hv))
            generalize hnew : ((secs d.sure).drop (k * 32)).take 32 = new at *
            clear hnew
            have E1 := Lib.hid e1
            have L1 := Lib.hid l1
            have LM := Lib.hid lm
            have LS := Lib.hid ls
            have O1 := Lib.hid o1
            clear e1 l1 lm ls ws wm o1
            repeat still_step
            refine wpStill_nil ?_
            refine wpList_store_seg rfl 71 (.tmp 42) (.tmp 41) rfl B.bn (k * 32) 32 rfl new rfl 71 (secs (crashMid d keep k)) HD'.out.hn Try.size71 L1.out fit2 O1.out ?_
            intro w2 r2
            rw [E1.out, ← SM.out] at r2
            have D2 := Lib.hid (HD'.out.now r2 (by have := HD.out.ok; exact ⟨this.lo, this.hi, by rw [SM.out]; simp [LM.out], this.lsure, this.lpend, crashMid_len H.out.ok keep _, this.wsure, this.fuse0, this.fuse1⟩))
            have K2 := Lib.hid ((HC.out.drew).trans (r2.chg.mono (fun k _ e => (.inr (.inl e) : B.S k))))
            clear r2
            go_wp2
            go_roundw
            case rel => exact ⟨k + 1, by omega, by go_num, by rw [CS.out]; go_num, D2.out, K2.out⟩
            case measure => simp [intOf]; omega
        · have hge : decide ((keep.length : Int) ≤ (cnt d.pend k : Int)) = true := by simp; omega
          have SM := Lib.hid (crashMid_set d keep k (by rw [hp, List.getD_eq_getElem?_getD, List.getElem?_eq_none (by omega)]; rfl))
          clear hp
          go_wp2
          go_still_tail 13, (by kernel_rfl)
          have HD' := Lib.hid (HD.out.chg (chg_drew (fun _ => False) wr) (fun _ _ e => e))
          have ls := H.out.ok.lsure
          have ws := H.out.ok.wsure
          have lm : (crashMid d keep k).length = B.n := HD.out.ok.lnow
          have wm : ∀ s ∈ crashMid d keep k, s.length = 32 := HD.out.ok.wnow
          have fit1 : k * 32 + 32 ≤ (secs d.sure).length := by rw [secs_length ws, ls]; omega
          have fit2 : k * 32 + 32 ≤ (secs (crashMid d keep k)).length := by rw [secs_length wm, lm]; omega
          refine wpStill_load_seg rfl 71 (.tmp 40) rfl B.bs (k * 32) 32 rfl 71 (secs d.sure) (0, 0) _ HD'.out.hs Try.underlying71 rfl Try.size71 fit1 ?_
          have e1 := secs_set wm ws (k := k) (by rw [lm]; exact hlt) (by rw [ls]; exact hlt)
          have l1 : (((secs d.sure).drop (k * 32)).take 32).length = 32 := by simp; omega
          have o1 : ∀ v ∈ ((secs d.sure).drop (k * 32)).take 32, v.oneCell' = true := fun v hv => bcells_one _ v (List.mem_of_mem_drop (List.mem_of_mem_take hv))
          generalize hnew : ((secs d.sure).drop (k * 32)).take 32 = new at *
          clear hnew
          have E1 := Lib.hid e1
          have L1 := Lib.hid l1
          have LM := Lib.hid lm
          have LS := Lib.hid ls
          have O1 := Lib.hid o1
          clear e1 l1 lm ls ws wm o1
          repeat still_step
          refine wpStill_nil ?_
          refine wpList_store_seg rfl 71 (.tmp 42) (.tmp 41) rfl B.bn (k * 32) 32 rfl new rfl 71 (secs (crashMid d keep k)) HD'.out.hn Try.size71 L1.out fit2 O1.out ?_
          intro w2 r2
          rw [E1.out, ← SM.out] at r2
          have D2 := Lib.hid (HD'.out.now r2 (by have := HD.out.ok; exact ⟨this.lo, this.hi, by rw [SM.out]; simp [LM.out], this.lsure, this.lpend, crashMid_len H.out.ok keep _, this.wsure, this.fuse0, this.fuse1⟩))
          have K2 := Lib.hid ((HC.out.drew).trans (r2.chg.mono (fun k _ e => (.inr (.inl e) : B.S k))))
          clear r2
          go_wp2
          go_roundw
          case rel => exact ⟨k + 1, by omega, by go_num, by rw [CS.out]; go_num, D2.out, K2.out⟩
          case measure => simp [intOf]; omega
      · have hp : d.pend.getD k false = false := by simpa using hp
        rw [hp] at cp
        rw [hp, if_neg (by decide)] at cs
        have CS := Lib.hid cs
        have SM := Lib.hid (crashMid_same d keep k (by rw [hp]; rfl))
        clear cs hp
        go_wp2
        go_roundw
        case rel => exact ⟨k + 1, by omega, by go_num, by rw [CS.out]; rfl, by rw [SM.out]; exact HD.out, HC.out⟩
        case measure => simp [intOf]; omega
    · obtain rfl : k = B.n := by omega
      go_wp2_with fail
      refine (settle_any _ B _ HD.out).mono ?_
      rintro e w1 ⟨rfl, d1, k1⟩
      have c3 := d1.c3
      have c4 := d1.c4
      have c5 := d1.c5
      have f3 : w1.frozen? ⟨B.b, 3, none⟩ = false := frozen_of d1.hb
      have f4 : w1.frozen? ⟨B.b, 4, none⟩ = false := frozen_of d1.hb
      have f5 : w1.frozen? ⟨B.b, 5, none⟩ = false := frozen_of d1.hb
      have D1 := Lib.hid d1
      have K1 := Lib.hid k1
      clear d1 k1
      go_wp2
      go_end0
      have d1 := D1.out
      have q := ((chg_cell w1 B.b 3 (.int .i64 0)).trans (chg_cell _ B.b 4 (.bool false))).trans (chg_cell _ B.b 5 (.bool false))
      have hok := H.out.ok.crash keep
      have e : d.crash keep = { now := crashMid d keep B.n, sure := crashMid d keep B.n, pend := List.replicate d.pend.length false, fuse := 0, on := false, dead := false } := by
        unfold Dev.crash; rw [H.out.ok.lnow]
      rw [e] at hok ⊢
      exact ⟨rfl, d1.head q (obj_setCell (obj_setCell (obj_setCell d1.hb _) _) _) rfl rfl rfl hok, HC.out.trans (K1.out.trans (q.mono (fun k _ e => .inl e)))⟩
end Go.Proofs.Ytnmgnhhipgiggaa
