/-
  The reference of layer 20: Write, Barrier, each by a contract over the plain model of the device.
-/
import Derived.Test.YtnmgnhhipgiggaaJRef3
namespace Go.Proofs.Ytnmgnhhipgiggaa
open Go.RowKit

theorem Try.sizeStr : (Try.prog.info? 9).map (·.size) = some 1 := by kernel_rfl
theorem settled_put {d : Dev} (h : d.Settled) (hl : d.pend.length = d.now.length) (i : Nat) (s : List UInt8) : (d.put i s).Settled := by
  intro k hk hp
  simp only [Dev.put, List.length_set] at hk hp ⊢
  by_cases e : i = k
  · subst e
    rw [List.getD_eq_getElem?_getD, List.getElem?_set_self (by omega)] at hp
    cases hp
  · rw [List.getD_eq_getElem?_getD, List.getElem?_set_ne e, ← List.getD_eq_getElem?_getD] at hp ⊢
    exact h k hk hp
theorem RDevAt.put {w : World} {R : RB} {d : Dev} (h : RDevAt w R d) {i : Nat} (hi : i < R.n) (s : List UInt8) (hs : s.length ≤ 32) :
    RDevAt ((w.setCell ⟨R.bn, i, none⟩ (str (pad s))).setCell ⟨R.bw, i, none⟩ (.bool true)) R (d.put i s) := by
  have q1 : Chg (· = R.bn) w (w.setCell ⟨R.bn, i, none⟩ (str (pad s))) := chg_cell _ _ _ _
  have q2 : Chg (· = R.bw) (w.setCell ⟨R.bn, i, none⟩ (str (pad s))) ((w.setCell ⟨R.bn, i, none⟩ (str (pad s))).setCell ⟨R.bw, i, none⟩ (.bool true)) := chg_cell _ _ _ _
  refine ⟨q2.obj h.n3 (q1.obj h.n2 h.hb), (h.hs.chg q1 h.n4).chg q2 h.n5, ?_, ?_, h.ok.put i s hs, settled_put h.inv (by rw [h.ok.lpend, h.ok.lnow]) i s, h.n1, h.n2, h.n3, h.n4, h.n5, h.n6⟩
  · have := h.hn.set (i := i) (by unfold strs; simp [h.ok.lnow]; exact hi) (str (pad s))
    rw [strs_set] at this
    exact this.chg q2 h.n6
  · have := (h.hw.chg q1 (fun e => h.n6 e.symm)).set (i := i) (by unfold bools; simp [h.ok.lpend]; exact hi) (.bool true)
    rw [bools_lset] at this
    exact this

theorem rwrite_any (w : World) (R : RB) (d : Dev) (i : Int) (s : ByteArray) (h : RDevAt w R d) (hm : s.size ≤ maxLen) :
    Calls Try.prog 21 #[R.ptr, .int .i64 i, .string s] w fun e w' => e = .returned (.int .i64 (d.write i s.data.toList).2) ∧ RDevAt w' R (d.write i s.data.toList).1 ∧ Chg R.S w w' := by
  have c1 := h.c1
  have c4 := h.c4
  have n65 := h.ok.hi
  have ln := h.ok.lnow
  have hsz : s.data.toList.length = s.size := by rw [Array.length_toList]; rfl
  have H := Lib.hid h; clear h
  unfold RB.ptr
  unfold maxLen at hm
  by_cases hd : d.dead = true
  · have e : d.write i s.data.toList = (d, 20) := by simp [Dev.write, hd]
    rw [e]
    rw [hd] at c4
    clear e hd hsz ln
    go_enter Try.func21, Try.ntmps21
    go_wp2
    go_ret
    exact ⟨rfl, H.out, Chg.refl _ _⟩
  have hd : d.dead = false := by simpa using hd
  have HD := Lib.hid hd
  rw [hd] at c4
  by_cases hi : i < 0 ∨ (R.n : Int) ≤ i
  · have e : d.write i s.data.toList = (d, 5) := by simp [Dev.write, hd, ln, hi]
    rw [e]
    clear e hd hsz ln HD
    by_cases h0 : i < 0
    · clear hi
      go_enter Try.func21, Try.ntmps21
      go_wp2
      go_ret
      exact ⟨rfl, H.out, Chg.refl _ _⟩
    · have h0' : 0 ≤ i := by omega
      have h1 : (R.n : Int) ≤ i := by omega
      have g0 : decide (i < 0) = false := by rw [decide_eq_false_iff_not]; omega
      clear hi h0
      go_enter Try.func21, Try.ntmps21
      go_wp2
      go_ret
      exact ⟨rfl, H.out, Chg.refl _ _⟩
  obtain ⟨k, rfl⟩ := Int.eq_ofNat_of_zero_le (show 0 ≤ i by omega)
  have hk : k < R.n := by omega
  have g0 : decide ((k : Int) < 0) = false := by rw [decide_eq_false_iff_not]; omega
  by_cases hs : 32 < s.size
  · have e : d.write k s.data.toList = (d, 4) := by simp only [Dev.write, hd, ln, hsz, if_neg hi, if_pos hs]; rfl
    rw [e]
    clear e hd hsz ln HD hi
    go_enter Try.func21, Try.ntmps21
    go_wp2
    go_ret
    exact ⟨rfl, H.out, Chg.refl _ _⟩
  by_cases ht : d.stops = true
  · have e : d.write k s.data.toList = (d.burnt, 20) := by simp only [Dev.write, hd, ln, hsz, if_neg hi, if_neg hs, if_pos ht]; rfl
    rw [e]
    have BURN := Lib.hid (rburn_stop w R d H.out hd ht)
    clear e hd hsz ln HD hi ht
    go_enter Try.func21, Try.ntmps21
    go_wp2_with fail
    refine (BURN.out).mono ?_
    rintro e w1 ⟨rfl, d1, k1⟩
    have D1 := Lib.hid d1
    have K1 := Lib.hid k1
    clear d1 k1
    go_wp2
    go_ret
    exact ⟨rfl, D1.out, K1.out.mono (fun k _ e => .inl e)⟩
  have ht : d.stops = false := by simpa using ht
  have e : d.write k s.data.toList = (d.burnt.put k s.data.toList, 0) := by simp only [Dev.write, hd, ln, hsz, if_neg hi, if_neg hs, ht]; rfl
  rw [e]
  have BURN := Lib.hid (rburn_go w R d H.out ht)
  have HSZ := Lib.hid hsz
  clear e hd hsz ln HD hi ht
  generalize d.burnt = d' at *
  go_enter Try.func21, Try.ntmps21
  go_wp2_with fail
  refine (BURN.out).mono ?_
  rintro e w1 ⟨rfl, d1, k1⟩
  have D1 := Lib.hid d1
  have K1 := Lib.hid k1
  have q1 := d1.c1
  clear d1 k1 c1 c4
  go_wp2
  refine wp_region_plan (N := 42) [.rd [0, 1, 2, 3, 4, 5], .ef 6, .rd [7], .ef 8] (fun w' => w'.cell? ⟨R.b, 1, none⟩ = some (.slice (some ⟨R.bn, 0, none⟩) R.n R.cn)) (by kernel_rfl) (by kernel_rfl) (by kernel_rfl) (by kernel_rfl) (Nat.le_of_ble_eq_true rfl) q1 ?_
  refine plan_rd (A := ?A1) ?h1 ?h2
  case h1 =>
    intro w' hS K hK
    simp only [opsAt, List.filterMap_cons, List.filterMap_nil, List.getElem?_toArray, List.getElem?_cons_succ, List.getElem?_cons_zero]
    repeat still_step
    refine wpStill_nil ?_
    exact hK
  refine plan_ef rfl ?_
  go_wp2_with fail
  refine (full_any _ s (by omega)).mono ?_
  rintro e w2 ⟨rfl, k2⟩
  have D2 := Lib.hid ((D1.out.chg (chg_drew (fun _ => False) w1) (fun _ _ e => e)).chg k2 (fun _ _ e => e))
  have K2 := Lib.hid ((chg_drew (fun _ => False) w1).trans k2)
  clear k2
  go_wp2_with fail
  refine ⟨D2.out.c1, ?_⟩
  refine plan_rd (A := ?A2) ?h3 ?h4
  case h3 =>
    intro w' hS K hK
    simp only [opsAt, List.filterMap_cons, List.filterMap_nil, List.getElem?_toArray, List.getElem?_cons_succ, List.getElem?_cons_zero]
    repeat still_step
    refine wpStill_nil ?_
    exact hK
  refine plan_ef rfl ?_
  have f1 := D2.out.hn.frozen k
  have cc := D2.out.hn.cell (strs_get (l := d'.now) (k := k) (by rw [D2.out.ok.lnow]; exact hk))
  unfold str at cc
  generalize hold : d'.now.getD k [] = old at cc
  clear hold
  go_wp2_with fail
  obtain ⟨w3, hw3⟩ : ∃ w3, w3 = w2.setCell ⟨R.bn, k, none⟩ (.string ⟨(pad s.data.toList).toArray⟩) := ⟨_, rfl⟩
  rw [← hw3]
  have q3 : Chg (· = R.bn) w2 w3 := by rw [hw3]; exact chg_cell _ _ _ _
  refine ⟨cell_chg q3 D2.out.n2 D2.out.c1, ?_⟩
  refine plan_nil ?_
  have c2 := cell_chg q3 D2.out.n2 D2.out.c2
  have r3 := D2.out.hw.chg q3 (fun e => D2.out.n6 e.symm)
  have f2 := r3.frozen k
  have cb := r3.cell (bools_lget (l := d'.pend) (k := k) (by rw [D2.out.ok.lpend]; exact hk))
  have HW3 := Lib.hid hw3
  have Q3 := Lib.hid q3
  clear r3 q3 hw3 f1 cc
  go_wp2
  go_ret
  refine ⟨rfl, by rw [HW3.out]; exact D2.out.put hk _ (by rw [HSZ.out]; omega), ?_⟩
  exact (((K1.out.mono (fun k _ e => .inl e)).trans (K2.out.mono (fun _ _ e => e.elim))).trans (Q3.out.mono (fun k _ e => .inr (.inr (.inl e))))).trans ((chg_cell _ _ _ _).mono (fun k _ e => .inr (.inr (.inr e))))

/-- One round of Barrier: a sector is sure. -/
def bstep (d : Dev) (k : Nat) : Dev := { d with sure := d.sure.set k (d.now.getD k []), pend := d.pend.set k false }
def bmid (d : Dev) : Nat → Dev
  | 0 => d
  | k + 1 => bstep (bmid d k) k
theorem getD_set {α : Type} (l : List α) (i k : Nat) (x z : α) (hi : i < l.length) : (l.set i x).getD k z = if i = k then x else l.getD k z := by
  rw [List.getD_eq_getElem?_getD, List.getElem?_set]
  split
  · rfl
  · rw [← List.getD_eq_getElem?_getD]
theorem ok_bstep {n : Nat} {d : Dev} (h : d.Ok n) {k : Nat} (hk : k < n) : (bstep d k).Ok n := by
  refine ⟨h.lo, h.hi, h.lnow, by simp [bstep, h.lsure], by simp [bstep, h.lpend], h.wnow, ?_, h.fuse0, h.fuse1⟩
  intro x hx
  rcases List.mem_or_eq_of_mem_set hx with hx | rfl
  · exact h.wsure x hx
  · exact getD_len h.wnow (by rw [h.lnow]; exact hk)
theorem settled_bstep {n : Nat} {d : Dev} (ok : d.Ok n) (h : d.Settled) {k : Nat} (hk : k < n) : (bstep d k).Settled := by
  intro i hi hp
  simp only [bstep] at hi hp ⊢
  rw [getD_set _ _ _ _ _ (by rw [ok.lsure]; exact hk)]
  rw [getD_set _ _ _ _ _ (by rw [ok.lpend]; exact hk)] at hp
  by_cases e : k = i
  · subst e; rw [if_pos rfl]
  · rw [if_neg e] at hp ⊢; exact h i hi hp
theorem bmid_facts {n : Nat} {d : Dev} (h : d.Ok n) : ∀ k, k ≤ n → (bmid d k).now = d.now ∧ (bmid d k).fuse = d.fuse ∧ (bmid d k).on = d.on ∧ (bmid d k).dead = d.dead ∧ (bmid d k).sure.length = n ∧ (bmid d k).pend.length = n ∧
    (∀ i, i < k → (bmid d k).sure.getD i [] = d.now.getD i [] ∧ (bmid d k).pend.getD i true = false)
  | 0, _ => ⟨rfl, rfl, rfl, rfl, h.lsure, h.lpend, fun i hi => by omega⟩
  | k + 1, hk => by
    obtain ⟨h1, h2, h3, h4, h5, h6, h7⟩ := bmid_facts h k (by omega)
    refine ⟨h1, h2, h3, h4, by simp [bmid, bstep, h5], by simp [bmid, bstep, h6], fun i hi => ?_⟩
    simp only [bmid, bstep]
    rw [getD_set _ _ _ _ _ (by omega), getD_set _ _ _ _ _ (by omega)]
    by_cases e : k = i
    · subst e; rw [if_pos rfl, if_pos rfl, h1]; exact ⟨rfl, rfl⟩
    · rw [if_neg e, if_neg e]; exact h7 i (by omega)
theorem list_eq_getD {α : Type} {l m : List α} (z : α) (hl : l.length = m.length) (h : ∀ i, i < l.length → l.getD i z = m.getD i z) : l = m := by
  apply List.ext_getElem hl
  intro i h1 h2
  have := h i h1
  rw [List.getD_eq_getElem?_getD, List.getD_eq_getElem?_getD, List.getElem?_eq_getElem h1, List.getElem?_eq_getElem h2] at this
  exact this
theorem bmid_end {n : Nat} {d : Dev} (h : d.Ok n) : bmid d n = d.settle := by
  obtain ⟨h1, h2, h3, h4, h5, h6, h7⟩ := bmid_facts h n (Nat.le_refl _)
  have e1 : (bmid d n).sure = d.now := list_eq_getD [] (by rw [h5, h.lnow]) (fun i hi => (h7 i (by omega)).1)
  have e2 : (bmid d n).pend = List.replicate d.pend.length false := list_eq_getD true (by rw [h6, List.length_replicate, h.lpend]) (fun i hi => by
    rw [(h7 i (by omega)).2, List.getD_eq_getElem?_getD, List.getElem?_replicate, if_pos (by rw [h.lpend]; omega)]; rfl)
  generalize bmid d n = m at *
  cases m
  simp only at h1 h2 h3 h4 e1 e2
  subst h1 h2 h3 h4 e1 e2
  rfl
theorem RDevAt.bstep {w : World} {R : RB} {d : Dev} (h : RDevAt w R d) {i : Nat} (hi : i < R.n) :
    RDevAt ((w.setCell ⟨R.bs, i, none⟩ (str (d.now.getD i []))).setCell ⟨R.bw, i, none⟩ (.bool false)) R (bstep d i) := by
  have q1 : Chg (· = R.bs) w (w.setCell ⟨R.bs, i, none⟩ (str (d.now.getD i []))) := chg_cell _ _ _ _
  have q2 : Chg (· = R.bw) (w.setCell ⟨R.bs, i, none⟩ (str (d.now.getD i []))) ((w.setCell ⟨R.bs, i, none⟩ (str (d.now.getD i []))).setCell ⟨R.bw, i, none⟩ (.bool false)) := chg_cell _ _ _ _
  refine ⟨q2.obj h.n3 (q1.obj h.n1 h.hb), ?_, (h.hn.chg q1 (fun e => h.n4 e.symm)).chg q2 h.n6, ?_, ok_bstep h.ok hi, settled_bstep h.ok h.inv hi, h.n1, h.n2, h.n3, h.n4, h.n5, h.n6⟩
  · have := h.hs.set (i := i) (by unfold strs; simp [h.ok.lsure]; exact hi) (str (d.now.getD i []))
    rw [strs_set] at this
    exact this.chg q2 h.n5
  · have := (h.hw.chg q1 (fun e => h.n5 e.symm)).set (i := i) (by unfold bools; simp [h.ok.lpend]; exact hi) (.bool false)
    rw [bools_lset] at this
    exact this

theorem rbarrier_any (w : World) (R : RB) (d : Dev) (h : RDevAt w R d) :
    Calls Try.prog 23 #[R.ptr] w fun e w' => e = .returned (.int .i64 d.barrier.2) ∧ RDevAt w' R d.barrier.1 ∧ Chg R.S w w' := by
  have c4 := h.c4
  have n65 := h.ok.hi
  have H := Lib.hid h; clear h
  unfold RB.ptr
  by_cases hd : d.dead = true
  · have e : d.barrier = (d, 20) := by
      have hs : d.stops = true := by simp [Dev.stops, hd]
      simp only [Dev.barrier, Dev.burnt, hs, if_true]; cases d; simp at hd; subst hd; rfl
    rw [e]
    rw [hd] at c4
    clear e hd
    go_enter Try.func23, Try.ntmps23
    go_wp2
    go_ret
    exact ⟨rfl, H.out, Chg.refl _ _⟩
  have hd : d.dead = false := by simpa using hd
  rw [hd] at c4
  by_cases ht : d.stops = true
  · have e : d.barrier = (d.burnt, 20) := by unfold Dev.barrier; rw [if_pos ht]
    rw [e]
    have BURN := Lib.hid (rburn_stop w R d H.out hd ht)
    clear e hd ht
    go_enter Try.func23, Try.ntmps23
    go_wp2_with fail
    refine (BURN.out).mono ?_
    rintro e w1 ⟨rfl, d1, k1⟩
    have D1 := Lib.hid d1
    have K1 := Lib.hid k1
    clear d1 k1
    go_wp2
    go_ret
    exact ⟨rfl, D1.out, K1.out.mono (fun k _ e => .inl e)⟩
  have ht : d.stops = false := by simpa using ht
  have e : d.barrier = (d.burnt.settle, 0) := by unfold Dev.barrier; rw [if_neg (by rw [ht]; decide)]
  rw [e]
  have BURN := Lib.hid (rburn_go w R d H.out ht)
  clear e hd ht
  generalize d.burnt = d' at *
  go_enter Try.func23, Try.ntmps23
  go_wp2_with fail
  refine (BURN.out).mono ?_
  rintro e w1 ⟨rfl, d1, k1⟩
  have D1 := Lib.hid d1
  have K1 := Lib.hid (k1.mono (T := R.S) (fun k _ e => .inl e))
  clear d1 k1 c4 BURN
  go_wp2
  go_loopw [3] (fun i wr => ∃ k : Nat, k ≤ R.n ∧ i = .int .i64 k ∧ RDevAt wr R (bmid d' k) ∧ Chg R.S w wr) (fun i _ => R.n - (intOf i).toNat)
  case atStart => exact ⟨0, Nat.zero_le _, rfl, D1.out, K1.out⟩
  case round =>
    obtain ⟨k, hk, rfl, hd, hc⟩ := hrel
    have HD := Lib.hid hd
    have HC := Lib.hid hc
    have c0 := hd.c0
    have c1 := hd.c1
    have c2 := hd.c2
    clear hd hc
    by_cases hlt : k < R.n
    · have cn := HD.out.hn.cell (strs_get (l := (bmid d' k).now) (k := k) (by rw [HD.out.ok.lnow]; exact hlt))
      unfold str at cn
      generalize hx : (bmid d' k).now.getD k [] = x at cn
      have HX := Lib.hid hx
      clear hx
      go_wp2
      refine wp_still_tail_drew 13 (by kernel_rfl) (by kernel_rfl) ?_
      simp only [List.take_succ_cons, List.take_zero, List.drop_succ_cons, List.drop_zero]
      repeat still_step
      refine wpStill_nil ?_
      have hd2 := HD.out.chg (chg_drew (fun _ => False) wr) (fun _ _ e => e)
      have hc2 := HC.out.drew
      clear c0 c1 c2 cn HD HC
      generalize wr.drew = wd at *
      have cs := hd2.hs.cell (strs_get (l := (bmid d' k).sure) (k := k) (by rw [hd2.ok.lsure]; exact hlt))
      have fs := hd2.hs.frozen k
      have dn := hd2.bstep hlt
      rw [HX.out] at dn
      unfold str at cs dn
      change RDevAt _ R (bmid d' (k + 1)) at dn
      generalize hy : (bmid d' k).sure.getD k [] = y at cs
      clear hy
      refine wpList_store_one rfl 9 (.tmp 34) (.tmp 33) rfl R.bs k rfl (.string ⟨x.toArray⟩) rfl rfl rfl Try.sizeStr _ cs fs ?_
      intro w3 hw3
      have q3 : Chg (· = R.bs) wd w3 := by rw [hw3]; exact chg_cell _ _ _ _
      have r3 := hd2.hw.chg q3 (fun e => hd2.n5 e.symm)
      have f2 := r3.frozen k
      have cb := r3.cell (bools_lget (l := (bmid d' k).pend) (k := k) (by rw [hd2.ok.lpend]; exact hlt))
      have c2 := cell_chg q3 hd2.n1 hd2.c2
      have Q3 := Lib.hid (hc2.trans (q3.mono (fun k _ e => (.inr (.inl e) : R.S k))))
      rw [← hw3] at dn
      have DN := Lib.hid dn
      clear q3 r3 dn hd2 hc2 hw3 cs fs
      generalize (bmid d' k).pend.getD k false = z at *
      go_wp2
      go_roundw
      case rel => exact ⟨k + 1, by omega, by go_num, DN.out, Q3.out.trans ((chg_cell _ _ _ _).mono (fun k _ e => .inr (.inr (.inr e))))⟩
      case measure => simp [intOf]; omega
    · obtain rfl : k = R.n := by omega
      have HE := Lib.hid (bmid_end D1.out.ok)
      go_wp2
      go_ret
      refine ⟨rfl, ?_, HC.out⟩
      have := HD.out
      rw [HE.out] at this
      exact this
end Go.Proofs.Ytnmgnhhipgiggaa
