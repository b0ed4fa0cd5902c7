/-
  StoreSwept: the walk.
-/
import Derived.Test.YtdgmjablkdemmaaTBord
namespace Go.Proofs.Ytdgmjablkdemmaa
open Go.RowKit Go.Maps

def till (s : PStore) (k : Nat) : PStore := ⟨s.room, k, s.turn, s.certs.filter (fun p => decide (p.1 < k))⟩
theorem till_inv {s : PStore} (h : PInv s) (k : Nat) : PInv (till s k) :=
  ⟨h.room1, h.room2, Nat.le_trans (List.length_filter_le _ _) h.len, h.num.sublist List.filter_sublist, fun p hp => (show p.1 < k from by simpa using (List.mem_filter.1 hp).2), fun p hp => h.ok p (List.mem_filter.1 hp).1, h.dif.sublist List.filter_sublist⟩
theorem till_len {s : PStore} (h : PInv s) (k : Nat) : (till s k).certs.length ≤ 200 := Nat.le_trans (till_inv h k).len h.room2
theorem till_none {s : PStore} {k : Nat} (hg : s.get (k : Int) = none) : (till s (k + 1)).certs = (till s k).certs := by
  have hn := get_none hg
  unfold till
  simp only
  refine List.filter_congr (fun p hp => ?_)
  have := hn p hp
  rw [decide_eq_decide]
  omega
theorem till_some {s : PStore} (h : PInv s) {k : Nat} {c : BCert} (hg : s.get (k : Int) = some c) : (till s (k + 1)).certs = ((till s k).plus c).certs := by
  obtain ⟨i, e, hm⟩ := get_some hg
  obtain rfl : k = i := by omega
  unfold till PStore.plus
  simp only
  have key : ∀ l : List (Nat × BCert), l.Pairwise (fun a b => a.1 < b.1) → (k, c) ∈ l → l.filter (fun p => decide (p.1 < k + 1)) = l.filter (fun p => decide (p.1 < k)) ++ [(k, c)] := by
    intro l
    induction l with
    | nil => intro _ q; cases q
    | cons a l ih =>
      intro hp hm
      rw [List.pairwise_cons] at hp
      rcases List.mem_cons.1 hm with q | q
      · subst q
        rw [List.filter_cons_of_pos (by simp), List.filter_cons_of_neg (by simp)]
        have e1 : l.filter (fun p => decide (p.1 < k + 1)) = [] := List.filter_eq_nil_iff.2 (fun p hpm => by have := hp.1 p hpm; simp; omega)
        have e2 : l.filter (fun p => decide (p.1 < k)) = [] := List.filter_eq_nil_iff.2 (fun p hpm => by have := hp.1 p hpm; simp; omega)
        rw [e1, e2]; rfl
      · have hak := hp.1 _ q
        simp only at hak
        rw [List.filter_cons_of_pos (by simp; omega), List.filter_cons_of_pos (by simp; omega), ih hp.2 q]; rfl
  exact key s.certs h.num hm
theorem till_end {s : PStore} (h : PInv s) (hn : s.next ≤ 400) : (till s 400).certs = s.certs := by
  unfold till
  simp only
  exact List.filter_eq_self.2 (fun p hp => by have := h.lt p hp; simp; omega)
theorem NumIn.congr {w : World} {mN : Nat} {fN : Lit → Option Value} {C : Nat → Prop} {s s' : PStore} (h : NumIn w mN fN C s) (e : s'.certs = s.certs) : NumIn w mN fN C s' := by
  have hg : ∀ x, s'.get x = s.get x := fun x => by unfold PStore.get PStore.find; rw [e]
  exact ⟨by rw [e]; exact h.map, fun x hx => h.noneS x (by rw [← hg]; exact hx), fun x c hx => h.someS x c (by rw [← hg]; exact hx), h.typ⟩
theorem NumIn.nil (w : World) (s : PStore) : NumIn (w.alloc (.map #[] 0)) w.heap.size (fun _ => none) (fun _ => False) (till s 0) := by
  have e : (till s 0).certs = [] := by unfold till; simp
  refine ⟨by rw [e]; exact MapV.made _ _ w, fun _ _ => rfl, fun x c hx => ?_, fun k hk => hk.elim⟩
  obtain ⟨i, _, hm⟩ := get_some hx
  rw [e] at hm
  cases hm
theorem sizes_of {s : PStore} (h : PInv s) {x : Int} {c : BCert} (hg : s.get x = some c) : (∀ y ∈ c.fr, y.size ≤ maxLen) ∧ c.sp.size ≤ maxLen ∧ c.sg < 65536 := by
  obtain ⟨i, rfl, hm⟩ := get_some hg
  have hb := h.ok _ hm
  have hc := certB_may hb
  refine ⟨fun y hy => Nat.le_trans (may_size (setB_mayC hc.fr hy)).1 (by decide), Nat.le_trans (may_size hc.sp).1 (by decide), ?_⟩
  have := hc.sg
  simp only at this
  omega
theorem gone_lt {s : PStore} (h : PInv s) {t : Int} {j : Nat} {i : Nat} {c : BCert} (hj : (s.gone t)[j]? = some i) (hm : (i, c) ∈ s.certs) : c.t < t := by
  obtain ⟨d, hd, e⟩ := mem_which.1 (List.mem_of_getElem? hj)
  have := h.num_inj hd hm rfl
  cases this
  exact of_decide_eq_true e
theorem gone_rise {s : PStore} (h : PInv s) {t : Int} {j : Nat} {i i' : Nat} (hj : (s.gone t)[j]? = some i) (hj' : (s.gone t)[j + 1]? = some i') : i < i' := by
  have := which_sorted h (fun c => decide (c.t < t))
  rw [List.pairwise_iff_getElem] at this
  obtain ⟨h1, e1⟩ := List.getElem?_eq_some_iff.1 hj
  obtain ⟨h2, e2⟩ := List.getElem?_eq_some_iff.1 hj'
  have := this j (j + 1) h1 h2 (by omega)
  unfold PStore.gone at e1 e2
  rw [e1, e2] at this
  exact this
theorem drops_mem {s : PStore} {l : List Nat} {p : Nat × BCert} (h : p ∈ (dropsS s l).certs) : p ∈ s.certs := by
  rw [(drops_certs l s).1] at h
  exact (List.mem_filter.1 h).1
theorem sweep_to {s : PStore} {t x : Int} {c : BCert} (hg : (sweepS s t).get x = some c) : t ≤ c.t := by
  obtain ⟨i, _, hm⟩ := get_some hg
  exact of_decide_eq_true (List.mem_filter.1 hm).2
theorem sweep_min (s : PStore) (t : Int) : ((sweepS s t).turn : Int) = (s.turn : Int) + min ((s.gone t).length : Int) 1 := by
  unfold sweepS
  simp only
  split <;> omega
def SweptRes (w : World) (e : Ending) (w' : World) : Prop := e = .returned (.bool true) ∧ Chg (fun _ => False) w w'
set_option maxHeartbeats 16000000 in
set_option maxRecDepth 100000 in
theorem swept_law (w : World) (room : Int) (v : Value) (t : Int) (on : Int) (A : List BAct) (wt : (Lit.int .i64 t).wf = true) (wo : (Lit.int .u16 on).wf = true) (hv : ActsAt w v (· < w.heap.size) A) :
    Calls Try.prog 4 #[.int .i64 room, v, .int .i64 t, .int .u16 on] w (SweptRes w) := by
  simp only [Lit.wf, Bool.and_eq_true, decide_eq_true_eq] at wt wo
  have ht0 : -9223372036854775808 ≤ t ∧ t ≤ 9223372036854775807 := wt
  have ho1 : 0 ≤ on := wo.1
  have ho2 : on ≤ 65535 := wo.2
  clear wt wo
  have HV := Lib.hid hv
  obtain ⟨la, cap, rfl, hl0, _⟩ := hv
  unfold maxLen at hl0
  have AW := Lib.hid (awake15_any w)
  go_enter Try.func4, Try.ntmps4
  go_wp2_with fail
  (with_reducible refine (AW.out).mono ?_)
  rintro e w1 ⟨rfl, k1⟩
  have K1 := Lib.hid k1
  have hs1 := k1.size
  have FI := fill_any w1 room _ A _ (HV.out.chg k1 (fun _ _ e => e)) (fun k hk => Nat.lt_of_lt_of_le hk hs1)
  unfold FillRes at FI
  have FI := Lib.hid FI
  clear AW k1 HV
  go_wp2_with fail
  (with_reducible refine (FI.out).mono ?_)
  rintro e w2 ⟨k2, rfl | ⟨b, B, s, rfl, h2, hb2, hsn, hsu⟩⟩
  · have K2 := Lib.hid (K1.out.trans k2)
    clear FI k2
    go_wp2
    go_ret
    exact ⟨rfl, K2.out⟩
  have S2 := Lib.hid h2
  have K2 := Lib.hid (K1.out.trans k2)
  have BB := Lib.hid (show ∀ j, B j → w.heap.size ≤ j from fun j hj => by have := hb2 j hj; omega)
  clear FI h2 hb2 k2 K1
  by_cases ht1 : t ≤ 2305843009213693952
  rotate_left
  · have g1 : decide (2305843009213693952 < t) = true := decide_eq_true (by omega)
    go_wp2
    go_ret
    exact ⟨rfl, K2.out⟩
  have g1 : decide (2305843009213693952 < t) = false := decide_eq_false (by omega)
  have hs2 := K2.out.size
  have ka := chg_alloc (fun _ => False) w2 (.map #[] 0)
  have S3 := Lib.hid (S2.out.chg ka (fun _ _ e => e))
  have K3 := Lib.hid (K2.out.trans ka)
  have N3 := Lib.hid (NumIn.nil w2 s)
  have NB := Lib.hid (show ¬ B w2.heap.size from fun q => Nat.lt_irrefl _ (S2.out.lt q))
  clear ka S2 K2
  have hmm := @run_makeMap Try.prog
  go_wp2_with fail
  have NBW := Lib.hid hs2
  generalize w2.alloc (.map #[] 0) = w3 at *
  generalize hmA : w2.heap.size = mA at *
  clear hmA g1 hmm
  go_loopw [11] (fun iv wr => ∃ (k : Nat) (fA : Lit → Option Value) (C : Nat → Prop), k ≤ 400 ∧ iv = .int .i64 k ∧ Hid (StoreAt wr b B s ∧ Chg (fun _ => False) w wr ∧ NumIn wr mA fA C (till s k) ∧ ∀ j, C j → ¬ B j)) (fun iv _ => 400 - (intOf iv).toNat)
  case atStart => exact ⟨0, _, _, by omega, rfl, Lib.hid ⟨S3.out, K3.out, N3.out, fun _ q => q.elim⟩⟩
  case round =>
    obtain ⟨k, fA, C, hk, rfl, HI⟩ := hrel
    obtain ⟨hst, hkc, hnu, hcb⟩ := HI.out
    have ST := Lib.hid hst
    have KC := Lib.hid hkc
    have NU := Lib.hid hnu
    have CB := Lib.hid hcb
    clear HI hst hkc hnu hcb
    by_cases hlt : k < 400
    · have g4 : decide ((k : Int) < 400) = true := decide_eq_true (by omega)
      have g5 : decide (k < 400) = true := decide_eq_true (by omega)
      have GE := get_any wr b B s (k : Int) ST.out (by omega) (by omega)
      unfold GetRes at GE
      have GE := Lib.hid GE
      go_wp2_with fail
      (with_reducible refine (GE.out).mono ?_)
      rintro e w7 ⟨⟨c, u, hg, rfl, ho⟩ | ⟨hg, rfl⟩, k7⟩
      · obtain ⟨z1, z2, z3⟩ := sizes_of ST.out.inv hg
        have TS := Lib.hid (till_some ST.out.inv hg)
        have hbl := Lib.hid (fun j (hj : u.ownBlock = some j) => (ho.lt j hj).1)
        have hty := Lib.hid (fun j (hj : u.ownBlock = some j) => own_cells ho hj)
        have CA := Lib.hid (show CertAt w7 u (fun j => u.ownBlock = some j) c from ⟨setAt_own ho z1, z2, z3⟩)
        obtain ⟨a7, c7, rfl⟩ := own_shape ho
        have S7 := Lib.hid (ST.out.chg k7 (fun _ _ e => e))
        have K7 := Lib.hid (KC.out.trans k7)
        have N7 := Lib.hid (NU.out.chg k7 (fun e => e) (fun _ _ e => e))
        have LTB := Lib.hid (fun j (hj : B j) => ST.out.lt hj)
        have TI := Lib.hid (till_inv ST.out.inv k)
        have TL := Lib.hid (till_len ST.out.inv k)
        clear GE hg k7 ST KC NU ho z1 z2 z3
        obtain ⟨kind, sg, sp, fr, f, to, num⟩ := c
        unfold certV
        have KEY := Lib.hid (ikey_of (k : Int) (by omega) (by omega))
        have kb := chg_alloc (fun _ => False) w7 (.cells #[.int .i64 kind, .int .u16 (sg : Int), .string sp, .slice a7 fr.length c7, .int .i64 f, .int .i64 to, .int .i64 num] 37)
        have S8 := Lib.hid (S7.out.chg kb (fun _ _ e => e))
        have K8 := Lib.hid (K7.out.trans kb)
        have N8 := Lib.hid (N7.out.chg kb (fun e => e) (fun _ _ e => e))
        have C8 := Lib.hid (CA.out.chg kb (fun _ _ e => e))
        have T8 := Lib.hid (show ∀ j, (Value.slice a7 fr.length c7).ownBlock = some j → ∃ cs, (w7.alloc (.cells #[.int .i64 kind, .int .u16 (sg : Int), .string sp, .slice a7 fr.length c7, .int .i64 f, .int .i64 to, .int .i64 num] 37)).heap[j]? = some (.cells cs 33 (0, 0)) from fun j hj => by
          obtain ⟨cs, q⟩ := hty.out j hj
          exact ⟨cs, kb.obj (fun e => e) q⟩)
        clear kb S7 K7 N7 CA hty
        go_wp2_with (at_mapUpdate; refine wpList_putV rfl (.tmp 49) (.tmp 50) (.tmp 51) 41 rfl 3 37 Try.intKeyed Try.underlying41 mA (till s k).certs.length fA rfl N8.out.map ?e1 (.int .i64 (k : Int)) (.agg #[.int .i64 kind, .int .u16 (sg : Int), .string sp, .slice a7 fr.length c7, .int .i64 f, .int .i64 to, .int .i64 num]) _ rfl rfl KEY.out ?e2)
        case e1 => have := TL.out; unfold maxLen; omega
        intro w9 n9 hm9 _ hn9 _ k9
        have NP := Lib.hid (NumIn.plus (c := ⟨kind, sg, sp, fr, f, to, num⟩) TI.out N8.out k9 hm9 (hn9 (by
          have : (till s k).get (k : Int) = none := by
            cases hq : (till s k).get (k : Int) with
            | none => rfl
            | some d =>
              obtain ⟨i, e, hmm⟩ := get_some hq
              have := (List.mem_filter.1 hmm).2
              simp at this
              omega
          rw [N8.out.noneS _ this])) (C8.out.chg k9 (fun j hj e => by
            obtain ⟨cs, q⟩ := T8.out j hj
            exact N8.out.map.ne_cells q e)) (fun j hj => by
            obtain ⟨cs, q⟩ := T8.out j hj
            exact ⟨cs, k9.obj (fun e => N8.out.map.ne_cells q e) q⟩))
        have S9 := Lib.hid (S8.out.chg k9 (fun j hj e => NB.out (e ▸ hj)))
        have K9 := Lib.hid (K8.out.next k9 (fun j hj e => by have h9 := NBW.out; omega))
        clear k9 hm9 hn9 N8 S8 K8 C8 T8
        go_wp2
        go_roundw
        case rel => exact ⟨k + 1, _, _, by omega, by go_num, Lib.hid ⟨S9.out, K9.out, NP.out.congr TS.out, fun j hj => by
          rcases hj with q | q
          · exact CB.out j q
          · intro hB
            have h1 := LTB.out j hB
            have h2 := hbl.out j q
            omega⟩⟩
        case measure => simp [intOf]; omega
      · have S7 := Lib.hid (ST.out.chg k7 (fun _ _ e => e))
        have K7 := Lib.hid (KC.out.trans k7)
        have N7 := Lib.hid ((NU.out.chg k7 (fun e => e) (fun _ _ e => e)).congr (till_none hg))
        clear GE hg k7 ST KC NU
        unfold certV zeroC
        have kb := chg_alloc (fun _ => False) w7 (.cells #[.int .i64 0, .int .u16 0, .string ⟨#[]⟩, .slice none 0 0, .int .i64 0, .int .i64 0, .int .i64 0] 37)
        have S8 := Lib.hid (S7.out.chg kb (fun _ _ e => e))
        have K8 := Lib.hid (K7.out.trans kb)
        have N8 := Lib.hid (N7.out.chg kb (fun e => e) (fun _ _ e => e))
        clear kb S7 K7 N7
        go_wp2
        go_roundw
        case rel => exact ⟨k + 1, fA, C, by omega, by go_num, Lib.hid ⟨S8.out, K8.out, N8.out, CB.out⟩⟩
        case measure => simp [intOf]; omega
    obtain rfl : k = 400 := by omega
    obtain ⟨wv, rfl⟩ : ∃ x, x = wr := ⟨wr, rfl⟩
    have S4 := ST
    have K4 := KC
    have N4 := Lib.hid (NU.out.congr (till_end ST.out.inv (by omega)).symm)
    clear ST KC NU
    have VA := Lib.hid (valid_any wv b B s (t + on) S4.out)
    have x1 : IntKind.i64.wrap on = on := by rw [IntKind.wrap_i64]; omega
    have x2 : IntKind.i64.wrap (t + on) = t + on := by rw [IntKind.wrap_i64]; omega
    go_wp2_with fail
    (with_reducible refine (VA.out).mono ?_)
    rintro e w5 ⟨v5, rfl, ho5, k5⟩
    obtain ⟨a5, c5, rfl⟩ := own_shape ho5
    have hwl : (s.which fun c => holdsB c (t + on)).length ≤ 1000 := Nat.le_trans (which_len s _) (by have := S4.out.inv.len; have := S4.out.inv.room2; omega)
    have LT5 := Lib.hid (fun j (hj : B j) => S4.out.lt hj)
    have S5 := Lib.hid (S4.out.chg k5 (fun _ _ e => e))
    have K5 := Lib.hid (K4.out.trans k5)
    have N5 := Lib.hid (N4.out.chg k5 (fun e => e) (fun _ _ e => e))
    have O5 := Lib.hid ho5
    have OB5 := Lib.hid (show ∀ j, (Value.slice a5 (s.which fun c => holdsB c (t + on)).length c5).ownBlock = some j → ¬ B j from fun j hj hB => by
      have h1 := LT5.out j hB
      have h2 := (ho5.lt j hj).1
      omega)
    clear VA ho5 k5 S4 K4 N4 LT5 x1 x2
    have TU := Lib.hid (turn_any w5 b B s S5.out)
    go_wp2_with fail
    (with_reducible refine (TU.out).mono ?_)
    rintro e w6 ⟨rfl, rfl⟩
    have SW := sweep_any w5 b B s t S5.out (by omega) (by omega)
    unfold SweepRes at SW
    have SW := Lib.hid SW
    clear TU
    go_wp2_with fail
    (with_reducible refine (SW.out).mono ?_)
    rintro e w6 ⟨v6, B6, rfl, ho6, h6, k6, hb6, hnb6⟩
    obtain ⟨a6, c6, rfl⟩ := own_shape ho6
    have S6 := Lib.hid h6
    have K6 := Lib.hid (K5.out.next k6 (fun j hj e => by have := BB.out j e; omega))
    have N6 := Lib.hid (N5.out.chg k6 NB.out (fun j hj => CB.out j hj))
    have O6 := Lib.hid ho6
    have W6 := Lib.hid (own_chg O5.out k6 (fun j hj => OB5.out j hj))
    have CB6 := Lib.hid (show (∀ j, C j → ¬ B6 j) ∧ ¬ B6 mA from ⟨fun j hj hB => by
      rcases hb6 j hB with q | q
      · exact CB.out j hj q
      · obtain ⟨cs, z⟩ := N5.out.typ j hj
        have := lt_of_obj z
        omega, fun hB => by
      rcases hb6 mA hB with q | q
      · exact NB.out q
      · have := N5.out.map.lt
        omega⟩)
    have BB6W := Lib.hid (show ∀ j, B6 j → w.heap.size ≤ j from fun j hj => by
      rcases hb6 j hj with q | q
      · exact BB.out j q
      · have := K5.out.size
        omega)
    have INV := Lib.hid S5.out.inv
    have hgl : (s.gone t).length ≤ 1000 := Nat.le_trans (which_len s _) (by have := S5.out.inv.len; have := S5.out.inv.room2; omega)
    have hsl : s.certs.length ≤ 200 := by have := S5.out.inv.len; have := S5.out.inv.room2; omega
    clear SW ho6 h6 k6 hb6 hnb6 S5 K5 N5 O5 OB5
    have DG := Lib.hid (fun j i (hj : (s.gone t)[j]? = some i) => gone_take INV.out hj)
    have GL := Lib.hid (fun j i c (hj : (s.gone t)[j]? = some i) hm => gone_lt (c := c) INV.out hj hm)
    have GR := Lib.hid (fun j i i' (hj : (s.gone t)[j]? = some i) hj' => gone_rise (i' := i') INV.out hj hj')
    have DE := Lib.hid (drops_gone INV.out t)
    have SM := Lib.hid (sweep_min s t)
    have HOLDS := Lib.hid (sweep_holds (s := s) (t := t) (u := t + on) (by omega))
    have TW := Lib.hid (sweep_twice s t)
    have STO := Lib.hid (fun x c => @sweep_to s t x c)
    have SNX := Lib.hid (show (sweepS s t).next ≤ 1000 ∧ (sweepS s t).turn ≤ 1000 from ⟨by have := (sweepS_facts s t).2.1; omega, by have := (sweepS_facts s t).2.2.1; omega⟩)
    have SCE := Lib.hid (show (sweepS s t).certs = s.certs.filter (fun p => decide (t ≤ p.2.t)) from rfl)
    generalize hGL : s.gone t = gl at *
    generalize sweepS s t = s6 at *
    generalize hWH : (s.which fun c => holdsB c (t + on)) = wh at *
    clear hGL hWH
    go_wp2_with fail
    go_loopw [66] (fun iv wq => ∃ (k : Nat) (fB : Lit → Option Value), k ≤ gl.length ∧ iv = .int .i64 k ∧ Hid (StoreAt wq b B6 s6 ∧ Chg (fun _ => False) w wq ∧ NumIn wq mA fB C (dropsS s (gl.take k)) ∧ wq.ownsRow w5.heap.size 3 1 (.slice a6 gl.length c6) gl.length (ints gl) ∧ wq.ownsRow wv.heap.size 3 1 (.slice a5 wh.length c5) wh.length (ints wh))) (fun iv _ => gl.length - (intOf iv).toNat)
    case atStart => exact ⟨0, fA, by omega, rfl, Lib.hid ⟨S6.out, K6.out, by rw [List.take_zero]; exact N6.out, O6.out, W6.out⟩⟩
    case round =>
      obtain ⟨k, fB, hk, rfl, HI⟩ := hrel
      obtain ⟨hst, hkc, hnu, hog, how⟩ := HI.out
      have ST := Lib.hid hst
      have KC := Lib.hid hkc
      have NU := Lib.hid hnu
      have OG := Lib.hid hog
      have OW := Lib.hid how
      clear HI hst hkc hnu hog how
      by_cases hlt : k < gl.length
      · obtain ⟨i, hi⟩ : ∃ i, gl[k]? = some i := ⟨_, List.getElem?_eq_getElem hlt⟩
        obtain ⟨c, hc⟩ := DG.out k i hi
        have hct := GL.out k i c hi (drops_mem hc)
        have hdi := drops_inv (gl.take k) INV.out
        have HC := Lib.hid hc
        obtain ⟨sa, sc, hf, _⟩ := NU.out.someS _ c (hdi.get_mem hc)
        have hi6 : i < 1000 := by have := INV.out.lt _ (drops_mem hc); simp only at this; omega
        obtain ⟨_, _, e8, _, hog8⟩ := own_ints OG.out
        cases e8
        obtain ⟨g6, ga6, _, gc6⟩ := hog8 k i hi
        subst ga6
        have HI := Lib.hid hi
        have HDI := Lib.hid hdi
        have KEY := Lib.hid (ikey_of (i : Int) (by omega) (by omega))
        have HF := Lib.hid hf
        have ZC := Lib.hid (Try.zeroCert)
        have hdl := dropS_len hdi hc
        clear hc hi hdi
        have ECX : ∃ cx, cx = c := ⟨c, rfl⟩
        obtain ⟨cx, hcx⟩ := ECX
        rw [← hcx] at HC
        have HCX := Lib.hid hcx
        clear hcx
        obtain ⟨kind, sg, sp, fr, f, to, num⟩ := c
        unfold certV at hf HF
        simp only at hct hf HF
        have m1 : decide (t ≤ to) = false := decide_eq_false (by omega)
        have hdl2 := Lib.hid hdl
        clear hdl
        by_cases hk0 : k = 0
        · subst hk0
          have kb := chg_alloc (fun _ => False) wr (.cells #[.int .i64 kind, .int .u16 (sg : Int), .string sp, .slice sa fr.length sc, .int .i64 f, .int .i64 to, .int .i64 num] 37)
          go_wp2_with (at_lookup; refine wpList_lookV_ok rfl (.tmp 72) (.tmp 73) 41 rfl 3 37 Try.intKeyed Try.underlying41 _ (ZC.out _) mA (dropsS s (gl.take 0)).certs.length fB rfl NU.out.map _ _ rfl KEY.out (.agg #[.int .i64 kind, .int .u16 (sg : Int), .string sp, .slice sa fr.length sc, .int .i64 f, .int .i64 to, .int .i64 num]) true (by rw [hf]; rfl) (by rw [hf]; rfl) ?_)
          have ST2 := Lib.hid (ST.out.chg kb (fun _ _ e => e))
          have KC2 := Lib.hid (KC.out.trans kb)
          have NU2 := Lib.hid (NU.out.chg kb (fun e => e) (fun _ _ e => e))
          have OG2 := Lib.hid (own_chg OG.out kb (fun _ _ e => e))
          have OW2 := Lib.hid (own_chg OW.out kb (fun _ _ e => e))
          clear kb ST KC NU OG OW hf
          obtain ⟨w9, n9, hdel, hn9, hm9, k9⟩ := NU2.out.map.del Try.intKeyed Try.underlying41 KEY.out 0
          rw [HF.out] at hn9
          have N9 := Lib.hid (NumIn.drop HDI.out HC.out NU2.out k9 hm9 (by simpa using hn9))
          have S9 := Lib.hid (ST2.out.chg k9 (fun j hj e => CB6.out.2 (e ▸ hj)))
          have K9 := Lib.hid (KC2.out.next k9 (fun j hj e => by have h9 := NBW.out; omega))
          have OG9 := Lib.hid (own_chg OG2.out k9 (fun j hj e => by
            obtain ⟨cs, q⟩ := own_cells OG2.out hj
            exact NU2.out.map.ne_cells q e))
          have OW9 := Lib.hid (own_chg OW2.out k9 (fun j hj e => by
            obtain ⟨cs, q⟩ := own_cells OW2.out hj
            exact NU2.out.map.ne_cells q e))
          have DS := Lib.hid (show dropsS s (gl.take (0 + 1)) = (dropsS s (gl.take 0)).drop i by
            rw [List.take_add_one, HI.out]
            exact drops_snoc _ _ _)
          clear hm9 hn9 k9 ST2 KC2 NU2 OG2 OW2
          go_wp2_with fail
          rw [hdel]
          simp only [Result.andThen_ok]
          clear hdel
          go_wp2
          go_roundw
          case rel => exact ⟨0 + 1, _, by omega, by go_num, Lib.hid ⟨S9.out, K9.out, by rw [DS.out]; exact N9.out, OG9.out, OW9.out⟩⟩
          case measure => simp [intOf]; omega
        · obtain ⟨i0, hi0⟩ : ∃ i0, gl[k - 1]? = some i0 := ⟨_, List.getElem?_eq_getElem (by omega)⟩
          have hrise := GR.out (k - 1) i0 i hi0 (by rw [show k - 1 + 1 = k from by omega]; exact HI.out)
          obtain ⟨_, e9, _, gc9⟩ := hog8 (k - 1) i0 hi0
          cases e9
          have m2 : decide (0 < k) = true := decide_eq_true (by omega)
          have m3 : decide ((0 : Int) < (k : Int)) = true := decide_eq_true (by omega)
          have m4 : decide ((i : Int) ≤ (i0 : Int)) = false := decide_eq_false (by omega)
          have m5 : decide (i ≤ i0) = false := decide_eq_false (by omega)
          have x1 : ((k : Int) - 1).toNat = k - 1 := by omega
          have x3 : 0 ≤ (k : Int) - 1 := by omega
          have x4 : (k : Int) - 1 < (gl.length : Int) := by omega
          clear hi0 hrise
          have kb := chg_alloc (fun _ => False) wr (.cells #[.int .i64 kind, .int .u16 (sg : Int), .string sp, .slice sa fr.length sc, .int .i64 f, .int .i64 to, .int .i64 num] 37)
          have gc9b := cell_chg kb (fun e => e) gc9
          go_wp2_with (at_lookup; refine wpList_lookV_ok rfl (.tmp 72) (.tmp 73) 41 rfl 3 37 Try.intKeyed Try.underlying41 _ (ZC.out _) mA (dropsS s (gl.take k)).certs.length fB rfl NU.out.map _ _ rfl KEY.out (.agg #[.int .i64 kind, .int .u16 (sg : Int), .string sp, .slice sa fr.length sc, .int .i64 f, .int .i64 to, .int .i64 num]) true (by rw [hf]; rfl) (by rw [hf]; rfl) ?_)
          have ST2 := Lib.hid (ST.out.chg kb (fun _ _ e => e))
          have KC2 := Lib.hid (KC.out.trans kb)
          have NU2 := Lib.hid (NU.out.chg kb (fun e => e) (fun _ _ e => e))
          have OG2 := Lib.hid (own_chg OG.out kb (fun _ _ e => e))
          have OW2 := Lib.hid (own_chg OW.out kb (fun _ _ e => e))
          clear kb ST KC NU OG OW hf gc9b gc9
          obtain ⟨w9, n9, hdel, hn9, hm9, k9⟩ := NU2.out.map.del Try.intKeyed Try.underlying41 KEY.out 0
          rw [HF.out] at hn9
          have N9 := Lib.hid (NumIn.drop HDI.out HC.out NU2.out k9 hm9 (by simpa using hn9))
          have S9 := Lib.hid (ST2.out.chg k9 (fun j hj e => CB6.out.2 (e ▸ hj)))
          have K9 := Lib.hid (KC2.out.next k9 (fun j hj e => by have h9 := NBW.out; omega))
          have OG9 := Lib.hid (own_chg OG2.out k9 (fun j hj e => by
            obtain ⟨cs, q⟩ := own_cells OG2.out hj
            exact NU2.out.map.ne_cells q e))
          have OW9 := Lib.hid (own_chg OW2.out k9 (fun j hj e => by
            obtain ⟨cs, q⟩ := own_cells OW2.out hj
            exact NU2.out.map.ne_cells q e))
          have DS := Lib.hid (show dropsS s (gl.take (k + 1)) = (dropsS s (gl.take k)).drop i by
            rw [List.take_add_one, HI.out]
            exact drops_snoc _ _ _)
          clear hm9 hn9 k9 ST2 KC2 NU2 OG2 OW2
          go_wp2_with fail
          rw [hdel]
          simp only [Result.andThen_ok]
          clear hdel
          go_wp2
          go_roundw
          case rel => exact ⟨k + 1, _, by omega, by go_num, Lib.hid ⟨S9.out, K9.out, by rw [DS.out]; exact N9.out, OG9.out, OW9.out⟩⟩
          case measure => simp [intOf]; omega
      obtain rfl : k = gl.length := by omega
      have N7 := Lib.hid ((NU.out.congr (s' := s6) (by rw [SCE.out, List.take_length, DE.out])))
      have S7 := ST
      have K7 := KC
      have W7 := OW
      clear ST KC NU OG OW DG GL GR DE SCE O6 S6 K6 N6 W6
      have BB6 := Lib.hid (show ∀ j, B6 j → w.heap.size ≤ j from fun j hj => BB6W.out j hj)
      go_wp2_with (at_range; refine wpList_rangeV rfl (.tmp 101) 41 rfl 3 37 Try.intKeyed Try.underlying41 mA s6.certs.length fB rfl N7.out.map ?fnext)
      intro w8 r8 k8 z8
      have R8 := Lib.hid r8
      have S8 := Lib.hid (S7.out.chg k8 (fun _ _ e => e))
      have K8 := Lib.hid (K7.out.trans k8)
      have N8 := Lib.hid (N7.out.chg k8 (fun e => e) (fun _ _ e => e))
      have W8 := Lib.hid (own_chg W7.out k8 (fun _ _ e => e))
      have hri : w.heap.size ≤ wr.heap.size := K7.out.size
      have BR := Lib.hid (show ¬ B6 wr.heap.size from fun q => Nat.lt_irrefl _ (S7.out.lt q))
      have CR := Lib.hid (show ∀ j, C j → j ≠ wr.heap.size from fun j hj e => by
        obtain ⟨cs, z⟩ := N7.out.typ j hj
        have := lt_of_obj z
        omega)
      have MR := Lib.hid (show mA ≠ wr.heap.size from fun e => by have := N7.out.map.lt; omega)
      have WR := Lib.hid (show ∀ j, (Value.slice a5 wh.length c5).ownBlock = some j → j ≠ wr.heap.size from fun j hj e => by have := (W7.out.lt j hj).2; omega)
      clear r8 k8 z8 S7 K7 N7 W7
      generalize wr.heap.size = ri at *
      go_wp2
      go_loopw [] (fun wz => Hid (StoreAt wz b B6 s6 ∧ Chg (fun _ => False) w wz ∧ NumIn wz mA fB C s6 ∧ wz.ownsRow wv.heap.size 3 1 (.slice a5 wh.length c5) wh.length (ints wh) ∧ ∃ left cnt, RangeV Try.prog 3 wz mA ri s6.certs.length fB left cnt)) (fun wz => wz.rangeLeft mA ri)
      case atStart => exact Lib.hid ⟨S8.out, K8.out, N8.out, W8.out, _, _, R8.out⟩
      case round =>
        obtain ⟨hst, hkc, hnu, how, left, cnt, hrg⟩ := hrel.out
        have ST := Lib.hid hst
        have KC := Lib.hid hkc
        have NU := Lib.hid hnu
        have OW := Lib.hid how
        have HRG := Lib.hid hrg
        have ML := Lib.hid (show wr.rangeLeft mA ri = cnt from hrg.left_eq)
        clear hst hkc hnu how hrg hrel
        go_wp2_with (at_next; refine wpList_nextV rfl (.tmp 102) rfl 3 .i64 Try.intKeyed Try.underlying3 mA ri s6.certs.length fB left cnt rfl HRG.out ?gdone ?gmore)
        · intro _ _
          have LE := Lib.hid (len_any wr b B6 s6 ST.out)
          have hlen := NU.out.map.len Try.underlying41
          have z0 : ((s6.certs.length : Int) == (s6.certs.length : Int)) = true := by simp
          go_wp2_with fail
          (with_reducible refine (LE.out).mono ?_)
          rintro e w2 ⟨rfl, rfl⟩
          have VB := valid_any wr b B6 s6 (t + on) ST.out
          rw [HOLDS.out] at VB
          have VB := Lib.hid VB
          clear LE
          go_wp2_with fail
          (with_reducible refine (VB.out).mono ?_)
          rintro e w3 ⟨v3, rfl, ho3, k3⟩
          obtain ⟨a3, c3, rfl⟩ := own_shape ho3
          have S3 := Lib.hid (ST.out.chg k3 (fun _ _ e => e))
          have K3 := Lib.hid (KC.out.trans k3)
          have IN := Lib.hid (ints15_any w3 a3 a5 c3 c5 _ _ _ ho3 (own_chg OW.out k3 (fun _ _ e => e)) hwl)
          clear VB ho3 k3 ST KC hlen z0
          go_wp2_with fail
          (with_reducible refine (IN.out).mono ?_)
          rintro e w4 ⟨rfl, k4⟩
          have S4 := Lib.hid (S3.out.chg k4 (fun _ _ e => e))
          have K4 := Lib.hid (K3.out.trans k4)
          have TU := Lib.hid (turn_any w4 b B6 s6 S4.out)
          clear IN k4 S3 K3
          go_wp2_with fail
          (with_reducible refine (TU.out).mono ?_)
          rintro e w5 ⟨rfl, rfl⟩
          have SW := sweep_any w4 b B6 s6 t S4.out (by have := SNX.out.1; omega) (by have := SNX.out.2; omega)
          rw [TW.out] at SW
          unfold SweepRes at SW
          have SW := Lib.hid SW
          have sm := SM.out
          have z1 : min (gl.length : Int) 1 ≤ 1 := by omega
          have z2 : 0 ≤ min (gl.length : Int) 1 := by omega
          have y1 : ((s6.turn : Int) == (s.turn : Int) + min (gl.length : Int) 1) = true := by rw [beq_iff_eq]; exact sm
          clear sm TU
          go_wp2_with fail
          (with_reducible refine (SW.out).mono ?_)
          rintro e w6 ⟨v6, B7, rfl, ho7, _, k6, _, _⟩
          obtain ⟨a7, c7, rfl⟩ := own_shape ho7
          have K6 := Lib.hid (K4.out.next k6 (fun j hj e => by have := BB6.out j e; omega))
          clear SW ho7 k6
          go_wp2
          go_ret
          exact ⟨by simp, K6.out⟩
        · intro x v w9 cnt' hlx hfx r9 c9 k9 s9 hen
          cases hg : s6.get x with
          | none => rw [NU.out.noneS x hg] at hfx; cases hfx
          | some c =>
          obtain ⟨sa, sc, hf, hca⟩ := NU.out.someS _ c hg
          rw [hfx] at hf
          cases hf
          have hto := STO.out x c hg
          obtain ⟨z1, z2, z3⟩ := sizes_of ST.out.inv hg
          obtain ⟨xi, rfl, hmm⟩ := get_some hg
          have hxn := ST.out.inv.lt _ hmm
          have hxn2 := SNX.out.1
          have S9 := Lib.hid (ST.out.chg k9 (fun j hj e => BR.out (e ▸ hj)))
          have K9 := Lib.hid (KC.out.next k9 (fun j hj e => by omega))
          have N9 := Lib.hid (NU.out.chg k9 MR.out (fun j hj e => CR.out j hj e))
          have W9 := Lib.hid (own_chg OW.out k9 (fun j hj e => WR.out j hj e))
          have C9 := Lib.hid (hca.chg k9 (fun j hj e => CR.out j hj e))
          have GC := Lib.hid c9
          obtain ⟨kind, sg, sp, fr, f, to, num⟩ := c
          unfold certV at hen
          simp only at hen hto z1 z2 z3 hxn
          have kb := chg_alloc (fun _ => False) w9 (.cells #[.int .i64 kind, .int .u16 (sg : Int), .string sp, .slice sa fr.length sc, .int .i64 f, .int .i64 to, .int .i64 num] 37)
          have SA := Lib.hid (S9.out.chg kb (fun _ _ e => e))
          have KA := Lib.hid (K9.out.trans kb)
          have NA := Lib.hid (N9.out.chg kb (fun e => e) (fun _ _ e => e))
          have WA := Lib.hid (own_chg W9.out kb (fun _ _ e => e))
          have CA := Lib.hid (C9.out.chg kb (fun _ _ e => e))
          have RA := Lib.hid (r9.chg kb (fun e => e) (fun e => e))
          have OA := Lib.hid (obj_alloc_new w9 (.cells #[.int .i64 kind, .int .u16 (sg : Int), .string sp, .slice sa fr.length sc, .int .i64 f, .int .i64 to, .int .i64 num] 37))
          have GE := get_of hg SA.out (by omega) (by omega)
          unfold certV at GE
          have GE := Lib.hid GE
          have HZ := Lib.hid z1
          clear hlx hfx r9 c9 k9 s9 kb S9 K9 N9 W9 C9 HRG hmm hg hca z1 ST KC NU OW
          go_wp2_with fail
          generalize w9.heap.size = g9 at *
          generalize w9.alloc (.cells #[.int .i64 kind, .int .u16 (sg : Int), .string sp, .slice sa fr.length sc, .int .i64 f, .int .i64 to, .int .i64 num] 37) = wa at *
          clear hen
          (with_reducible refine (GE.out).mono ?_)
          rintro e w7 ⟨v7, rfl, ho7, k7⟩
          obtain ⟨a7, c7, rfl⟩ := own_shape ho7
          have D7 := Lib.hid (show CertAt w7 (.slice a7 fr.length c7) (fun k => (Value.slice a7 fr.length c7).ownBlock = some k) ⟨kind, sg, sp, fr, f, to, num⟩ from ⟨setAt_own ho7 HZ.out, z2, z3⟩)
          have kc := chg_alloc (fun _ => False) w7 (.cells #[.int .i64 kind, .int .u16 (sg : Int), .string sp, .slice a7 fr.length c7, .int .i64 f, .int .i64 to, .int .i64 num] 37)
          have kd := k7.trans kc
          have S8 := Lib.hid (SA.out.chg kd (fun _ _ e => e))
          have K8 := Lib.hid (KA.out.trans kd)
          have N8 := Lib.hid (NA.out.chg kd (fun e => e) (fun _ _ e => e))
          have W8 := Lib.hid (own_chg WA.out kd (fun _ _ e => e))
          have C8 := Lib.hid (CA.out.chg kd (fun _ _ e => e))
          have R8 := Lib.hid (RA.out.chg kd (fun e => e) (fun e => e))
          have D8 := Lib.hid (D7.out.chg kc (fun _ _ e => e))
          have O8 := Lib.hid (kd.obj (fun e => e) OA.out)
          have P8 := Lib.hid (obj_alloc_new w7 (.cells #[.int .i64 kind, .int .u16 (sg : Int), .string sp, .slice a7 fr.length c7, .int .i64 f, .int .i64 to, .int .i64 num] 37))
          have SM8 := same8_any (w7.alloc (.cells #[.int .i64 kind, .int .u16 (sg : Int), .string sp, .slice a7 fr.length c7, .int .i64 f, .int .i64 to, .int .i64 num] 37)) ⟨kind, sg, sp, fr, f, to, num⟩ sa a7 sc c7 _ _ C8.out D8.out
          unfold certV at SM8
          have SM8 := Lib.hid SM8
          clear GE ho7 k7 kc kd SA KA NA WA CA RA OA D7
          have d0 := cell_of (o := 0) O8.out rfl
          have d1 := cell_of (o := 1) O8.out rfl
          have d2 := cell_of (o := 2) O8.out rfl
          have d3 := cell_of (o := 3) O8.out rfl
          have d4 := cell_of (o := 4) O8.out rfl
          have d5 := cell_of (o := 5) O8.out rfl
          have d6 := cell_of (o := 6) O8.out rfl
          have p0 := cell_of (o := 0) P8.out rfl
          have p1 := cell_of (o := 1) P8.out rfl
          have p2 := cell_of (o := 2) P8.out rfl
          have p3 := cell_of (o := 3) P8.out rfl
          have p4 := cell_of (o := 4) P8.out rfl
          have p5 := cell_of (o := 5) P8.out rfl
          have p6 := cell_of (o := 6) P8.out rfl
          have m1 : decide (to < t) = false := decide_eq_false (by omega)
          go_wp2_with fail
          generalize w7.alloc (.cells #[.int .i64 kind, .int .u16 (sg : Int), .string sp, .slice a7 fr.length c7, .int .i64 f, .int .i64 to, .int .i64 num] 37) = w8 at *
          (with_reducible refine (SM8.out).mono ?_)
          rintro e wE ⟨rfl, kE⟩
          have SE := Lib.hid (S8.out.chg kE (fun _ _ e => e))
          have KE := Lib.hid (K8.out.trans kE)
          have NE := Lib.hid (N8.out.chg kE (fun e => e) (fun _ _ e => e))
          have WE := Lib.hid (own_chg W8.out kE (fun _ _ e => e))
          have RE := Lib.hid (R8.out.chg kE (fun e => e) (fun e => e))
          clear kE S8 K8 N8 W8 R8 C8 D8 O8 P8 SM8 d0 d1 d2 d3 d4 d5 d6 p0 p1 p2 p3 p4 p5 p6
          go_wp2
          go_roundw
          case rel => exact Lib.hid ⟨SE.out, KE.out, NE.out, WE.out, _, _, RE.out⟩
          case measure => rw [ML.out, RE.out.left_eq]; exact GC.out
end Go.Proofs.Ytdgmjablkdemmaa
