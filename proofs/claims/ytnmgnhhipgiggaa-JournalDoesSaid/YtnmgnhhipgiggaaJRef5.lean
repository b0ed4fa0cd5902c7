/-
  The reference of layer 20: Pending, Crash, Room.
-/
import Derived.Test.YtnmgnhhipgiggaaJRef4
namespace Go.Proofs.Ytnmgnhhipgiggaa
open Go.RowKit

theorem own_empty (w : World) (base : Nat) (e : TypeId) (hb : base ≤ w.heap.size) : (w.alloc (.cells #[] e)).ownsRow base e 1 (.slice (some ⟨w.heap.size, 0, none⟩) 0 0) 0 [] :=
  ⟨rfl, .inr ⟨w.heap.size, 0, #[], rfl, hb, obj_alloc_new _ _, Nat.le_refl _, by unfold maxLen; omega, rfl, rfl⟩⟩

theorem rpending_any (w : World) (R : RB) (d : Dev) (h : RDevAt w R d) :
    Calls Try.prog 25 #[R.ptr] w fun e w' => ∃ v, e = .returned v ∧ w'.ownsRow w.heap.size 3 1 v d.pending.length (ints d.pending) ∧ Chg (fun _ => False) w w' := by
  have n65 := h.ok.hi
  have lp := h.ok.lpend
  have HLP := Lib.hid lp
  have H := Lib.hid h; clear h lp
  unfold RB.ptr
  go_enter Try.func25, Try.ntmps25
  go_wp2
  go_loopw [3, 4] (fun v i wr => ∃ k : Nat, k ≤ R.n ∧ i = .int .i64 k ∧ wr.ownsRow w.heap.size 3 1 v (pendTo d.pend k).length (ints (pendTo d.pend k)) ∧ Chg (fun _ => False) w wr) (fun _ i _ => R.n - (intOf i).toNat)
  case atStart => exact ⟨0, Nat.zero_le _, rfl, own_empty _ _ _ (Nat.le_refl _), (chg_alloc _ _ _)⟩
  case round =>
    obtain ⟨k, hk, rfl, hown, hc⟩ := hrel
    have HO := Lib.hid hown
    have HC := Lib.hid hc
    have c2 := (H.out.chg hc (fun _ _ e => e)).c2
    clear hown hc
    by_cases hlt : k < R.n
    · have d1 := H.out.chg HC.out (fun _ _ e => e)
      have cp := d1.hw.cell (bools_lget (l := d.pend) (k := k) (by rw [HLP.out]; exact hlt))
      have sc := pendTo_succ d.pend k
      have sl := pendTo_length d.pend k
      clear d1
      by_cases hp : d.pend.getD k false = true
      · rw [hp] at cp
        rw [if_pos hp] at sc
        have SC := Lib.hid sc
        clear hp sc
        go_wp2_with (at_builtin; refine wpList_push rfl (.tmp 22) (.tmp 24) 44 rfl 3 1 8 Try.underlying44 Try.elem3 w.heap.size _ _ _ rfl (HO.out.alloc _) _ [.int .i64 k] 3 (0, 0) rfl (obj_alloc_new _ _) rfl ?c1 ?c2 ?c3 ?c4 ?next)
        case c1 => intro u hu; simp at hu; subst hu; rfl
        case c2 => omega
        case c3 => unfold maxLen; omega
        case c4 => have := HC.out.size; simp; omega
        case next =>
          intro v' w1 ho1 hg1
          have HO1 := Lib.hid ho1
          have HG1 := Lib.hid hg1
          clear ho1 hg1
          go_wp2
          go_roundw
          case rel =>
            refine ⟨k + 1, by omega, by go_num, ?_, ?_⟩
            · rw [SC.out]; simpa [ints] using HO1.out
            · exact (HC.out.alloc _).grown HG1.out (fun j hj hl => by have := own_lt HO.out j hj; omega)
          case measure => simp [intOf]; omega
      · have hp : d.pend.getD k false = false := by simpa using hp
        rw [hp] at cp
        rw [if_neg (by rw [hp]; decide)] at sc
        have SC := Lib.hid sc
        clear hp sc
        go_wp2
        go_roundw
        case rel => exact ⟨k + 1, by omega, by go_num, by rw [SC.out]; exact HO.out, HC.out⟩
        case measure => simp [intOf]; omega
    · obtain rfl : k = R.n := by omega
      go_wp2
      go_ret
      refine ⟨_, rfl, ?_, HC.out⟩
      unfold Dev.pending; rw [HLP.out]; exact HO.out
theorem rroom_any (w : World) (n : Int) (h0 : 1 ≤ n) (h1 : n ≤ 1000) :
    Calls Try.prog 32 #[.int .i64 n] w fun e w' => e = .returned (.int .i64 ((n - 1) / 2 * 32)) ∧ w = w' := by
  go_enter Try.func32, Try.ntmps32
  go_wp2
  go_ret
  exact ⟨rfl, rfl⟩

/-- The list of what is pending, and the count of what is pending ahead. -/
theorem pendTo_len (p : List Bool) : ∀ n, n ≤ p.length → (pendTo p n).length = cnt p n
  | 0, _ => by simp [pendTo, cnt]
  | n + 1, h => by
    rw [pendTo_succ, cnt_succ p n (by omega), ← pendTo_len p n (by omega)]
    split <;> simp
theorem pendTo_get (p : List Bool) : ∀ n, n ≤ p.length → ∀ (j x : Nat), (pendTo p n)[j]? = some x → x < n ∧ p.getD x false = true ∧ cnt p x = j
  | 0, _, j, x, h => by simp [pendTo] at h
  | n + 1, hn, j, x, h => by
    have ih := pendTo_get p n (by omega)
    rw [pendTo_succ] at h
    split at h
    · rename_i hp
      rcases Nat.lt_or_ge j (pendTo p n).length with hj | hj
      · rw [List.getElem?_append_left hj] at h
        obtain ⟨h1, h2, h3⟩ := ih j x h
        exact ⟨by omega, h2, h3⟩
      · rw [List.getElem?_append_right hj] at h
        have hj0 : j - (pendTo p n).length = 0 := by
          rcases Nat.eq_zero_or_pos (j - (pendTo p n).length) with q | q
          · exact q
          · rw [List.getElem?_eq_none (by simp; omega)] at h; cases h
        rw [hj0] at h
        simp at h
        subst h
        exact ⟨by omega, hp, by rw [← pendTo_len p n (by omega)]; omega⟩
    · obtain ⟨h1, h2, h3⟩ := ih j x h
      exact ⟨by omega, h2, h3⟩
theorem cnt_mono (p : List Bool) : ∀ (a n : Nat), a ≤ n → n ≤ p.length → cnt p a ≤ cnt p n
  | a, n, h, hl => by
    induction n with
    | zero => have : a = 0 := by omega
              subst this; exact Nat.le_refl _
    | succ n ih =>
      rcases Nat.lt_or_ge n a with q | q
      · have : a = n + 1 := by omega
        subst this; exact Nat.le_refl _
      · rw [cnt_succ p n (by omega)]; have := ih q (by omega); omega
theorem cnt_inj (p : List Bool) {a b : Nat} (ha : a < p.length) (hb : b < p.length) (pa : p.getD a false = true) (pb : p.getD b false = true) (h : cnt p a = cnt p b) : a = b := by
  rcases Nat.lt_trichotomy a b with q | q | q
  · have := cnt_mono p (a + 1) b (by omega) (by omega)
    rw [cnt_succ p a ha, if_pos pa] at this; omega
  · exact q
  · have := cnt_mono p (b + 1) a (by omega) (by omega)
    rw [cnt_succ p b hb, if_pos pb] at this; omega
/-- What is sure, behind j rounds of the first loop of Crash. -/
def kAt (d : Dev) (keep : List Bool) (j i : Nat) : List UInt8 :=
  if (d.pend.getD i false && decide (cnt d.pend i < j)) && keep.getD (cnt d.pend i) false then d.now.getD i [] else d.sure.getD i []
def kmid (d : Dev) (keep : List Bool) (j : Nat) : Dev := { d with sure := (List.range d.sure.length).map (kAt d keep j) }
theorem range_map_getD {α : Type} (f : Nat → α) (n i : Nat) (z : α) (hi : i < n) : ((List.range n).map f).getD i z = f i := by
  rw [List.getD_eq_getElem?_getD, List.getElem?_map, List.getElem?_range hi]; rfl
theorem kmid_zero (d : Dev) (keep : List Bool) : kmid d keep 0 = d := by
  have : (List.range d.sure.length).map (kAt d keep 0) = d.sure := by
    refine list_eq_getD [] (by simp) (fun i hi => ?_)
    rw [range_map_getD _ _ _ _ (by simpa using hi)]
    simp [kAt]
  unfold kmid; rw [this]
theorem kmid_no {d : Dev} {keep : List Bool} {j : Nat} (h : keep.getD j false = false) : kmid d keep (j + 1) = kmid d keep j := by
  have : kAt d keep (j + 1) = kAt d keep j := by
    funext i
    unfold kAt
    by_cases e : cnt d.pend i = j
    · rw [e, h]; simp
    · have : decide (cnt d.pend i < j + 1) = decide (cnt d.pend i < j) := by rw [decide_eq_decide]; omega
      rw [this]
  unfold kmid; rw [this]
theorem kmid_yes {n : Nat} {d : Dev} (ok : d.Ok n) {keep : List Bool} {j x : Nat} (hx : d.pending[j]? = some x) (h : keep.getD j false = true) :
    kmid d keep (j + 1) = { (kmid d keep j) with sure := (kmid d keep j).sure.set x (d.now.getD x []) } := by
  obtain ⟨hx1, hx2, hx3⟩ := pendTo_get d.pend d.pend.length (Nat.le_refl _) j x hx
  have : (List.range d.sure.length).map (kAt d keep (j + 1)) = ((List.range d.sure.length).map (kAt d keep j)).set x (d.now.getD x []) := by
    refine list_eq_getD [] (by simp) (fun i hi => ?_)
    simp only [List.length_map, List.length_range] at hi
    rw [range_map_getD _ _ _ _ hi, getD_set _ _ _ _ _ (by simp; rw [ok.lsure]; rw [ok.lpend] at hx1; exact hx1), range_map_getD _ _ _ _ hi]
    unfold kAt
    by_cases e : x = i
    · subst e; rw [if_pos rfl, hx2, hx3, h]; simp
    · rw [if_neg e]
      by_cases hp : d.pend.getD i false = true
      · have : cnt d.pend i ≠ j := fun q => e (cnt_inj d.pend hx1 (by rw [ok.lpend]; rw [ok.lsure] at hi; exact hi) hx2 hp (by omega))
        have : decide (cnt d.pend i < j + 1) = decide (cnt d.pend i < j) := by rw [decide_eq_decide]; omega
        rw [this]
      · have hp : d.pend.getD i false = false := by simpa using hp
        rw [hp]; rfl
  unfold kmid; rw [this]
theorem kAt_len {n : Nat} {d : Dev} (ok : d.Ok n) (keep : List Bool) (j i : Nat) (hi : i < n) : (kAt d keep j i).length = 32 := by
  unfold kAt
  split
  · exact getD_len ok.wnow (by rw [ok.lnow]; exact hi)
  · exact getD_len ok.wsure (by rw [ok.lsure]; exact hi)
theorem ok_kmid {n : Nat} {d : Dev} (ok : d.Ok n) (keep : List Bool) (j : Nat) : (kmid d keep j).Ok n := by
  refine ⟨ok.lo, ok.hi, ok.lnow, by simp [kmid, ok.lsure], ok.lpend, ok.wnow, ?_, ok.fuse0, ok.fuse1⟩
  intro s hs
  simp only [kmid, List.mem_map, List.mem_range] at hs
  obtain ⟨i, hi, rfl⟩ := hs
  exact kAt_len ok keep j i (by rw [← ok.lsure]; exact hi)
theorem settled_kmid {n : Nat} {d : Dev} (ok : d.Ok n) (h : d.Settled) (keep : List Bool) (j : Nat) : (kmid d keep j).Settled := by
  intro i hi hp
  simp only [kmid] at hi hp ⊢
  rw [range_map_getD _ _ _ _ (by rw [ok.lsure, ← ok.lnow]; exact hi)]
  unfold kAt
  rw [hp]
  exact h i hi hp
/-- One round of the second loop of Crash. -/
def cstep (d : Dev) (k : Nat) : Dev := { d with now := d.now.set k (d.sure.getD k []), pend := d.pend.set k false }
def cmid (d : Dev) : Nat → Dev
  | 0 => d
  | k + 1 => cstep (cmid d k) k
theorem ok_cstep {n : Nat} {d : Dev} (h : d.Ok n) {k : Nat} (hk : k < n) : (cstep d k).Ok n := by
  refine ⟨h.lo, h.hi, by simp [cstep, h.lnow], h.lsure, by simp [cstep, h.lpend], ?_, h.wsure, h.fuse0, h.fuse1⟩
  intro x hx
  rcases List.mem_or_eq_of_mem_set hx with hx | rfl
  · exact h.wnow x hx
  · exact getD_len h.wsure (by rw [h.lsure]; exact hk)
theorem settled_cstep {n : Nat} {d : Dev} (ok : d.Ok n) (h : d.Settled) {k : Nat} (hk : k < n) : (cstep d k).Settled := by
  intro i hi hp
  simp only [cstep, List.length_set] at hi hp ⊢
  rw [getD_set _ _ _ _ _ (by rw [ok.lnow]; exact hk)]
  rw [getD_set _ _ _ _ _ (by rw [ok.lpend]; exact hk)] at hp
  by_cases e : k = i
  · subst e; rw [if_pos rfl]
  · rw [if_neg e] at hp ⊢; exact h i hi hp
theorem cmid_facts {n : Nat} {d : Dev} (h : d.Ok n) : ∀ k, k ≤ n → (cmid d k).sure = d.sure ∧ (cmid d k).now.length = n ∧ (cmid d k).pend.length = n ∧
    (∀ i, i < k → (cmid d k).now.getD i [] = d.sure.getD i [] ∧ (cmid d k).pend.getD i true = false)
  | 0, _ => ⟨rfl, h.lnow, h.lpend, fun i hi => by omega⟩
  | k + 1, hk => by
    obtain ⟨h1, h5, h6, h7⟩ := cmid_facts h k (by omega)
    refine ⟨h1, by simp [cmid, cstep, h5], by simp [cmid, cstep, h6], fun i hi => ?_⟩
    simp only [cmid, cstep]
    rw [getD_set _ _ _ _ _ (by omega), getD_set _ _ _ _ _ (by omega)]
    by_cases e : k = i
    · subst e; rw [if_pos rfl, if_pos rfl, h1]; exact ⟨rfl, rfl⟩
    · rw [if_neg e, if_neg e]; exact h7 i (by omega)
theorem kAt_end {n : Nat} {d : Dev} (ok : d.Ok n) (h : d.Settled) (keep : List Bool) {i : Nat} (hi : i < n) : kAt d keep d.pending.length i = crashAt d keep i := by
  unfold kAt crashAt
  by_cases hp : d.pend.getD i false = true
  · have hc : cnt d.pend i < d.pending.length := by
      unfold Dev.pending
      rw [pendTo_len _ _ (Nat.le_refl _)]
      have := cnt_mono d.pend (i + 1) d.pend.length (by rw [ok.lpend]; omega) (Nat.le_refl _)
      rw [cnt_succ d.pend i (by rw [ok.lpend]; exact hi), if_pos hp] at this; omega
    have : decide (cnt d.pend i < d.pending.length) = true := by rw [decide_eq_true_eq]; exact hc
    rw [hp, this]
    cases keep.getD (cnt d.pend i) false <;> rfl
  · have hp : d.pend.getD i false = false := by simpa using hp
    rw [hp]
    exact (h i (by rw [ok.lnow]; exact hi) hp).symm
theorem crash_end {n : Nat} {d : Dev} (ok : d.Ok n) (h : d.Settled) (keep : List Bool) :
    d.crash keep = { (cmid (kmid d keep d.pending.length) n) with fuse := 0, on := false, dead := false } := by
  obtain ⟨h1, h5, h6, h7⟩ := cmid_facts (ok_kmid ok keep d.pending.length) n (Nat.le_refl _)
  have es : crashMid d keep d.now.length = (kmid d keep d.pending.length).sure := by
    unfold crashMid kmid
    rw [ok.lsure, ok.lnow]
    apply List.map_congr_left
    intro i hi
    have hi : i < n := by simpa using hi
    rw [if_pos hi, kAt_end ok h keep hi]
  have ls : (kmid d keep d.pending.length).sure.length = n := (ok_kmid ok keep _).lsure
  have e1 : (cmid (kmid d keep d.pending.length) n).now = (kmid d keep d.pending.length).sure := list_eq_getD [] (by rw [h5, ls]) (fun i hi => (h7 i (by omega)).1)
  have e2 : (cmid (kmid d keep d.pending.length) n).pend = List.replicate d.pend.length false := list_eq_getD true (by rw [h6, List.length_replicate, ok.lpend]) (fun i hi => by
    rw [(h7 i (by omega)).2, List.getD_eq_getElem?_getD, List.getElem?_replicate, if_pos (by rw [ok.lpend]; omega)]; rfl)
  unfold Dev.crash
  rw [es]
  dsimp only
  rw [e1, e2, h1]
theorem settled_crash (d : Dev) (keep : List Bool) : (d.crash keep).Settled := by
  intro i _ _; rfl
theorem RDevAt.sureSet {w : World} {R : RB} {d : Dev} (h : RDevAt w R d) {i : Nat} (hi : i < R.n) (x : List UInt8) (ok : Dev.Ok R.n { d with sure := d.sure.set i x }) (inv : Dev.Settled { d with sure := d.sure.set i x }) :
    RDevAt (w.setCell ⟨R.bs, i, none⟩ (str x)) R { d with sure := d.sure.set i x } := by
  have q1 : Chg (· = R.bs) w (w.setCell ⟨R.bs, i, none⟩ (str x)) := chg_cell _ _ _ _
  refine ⟨q1.obj h.n1 h.hb, ?_, h.hn.chg q1 (fun e => h.n4 e.symm), h.hw.chg q1 (fun e => h.n5 e.symm), ok, inv, h.n1, h.n2, h.n3, h.n4, h.n5, h.n6⟩
  have := h.hs.set (i := i) (by unfold strs; simp [h.ok.lsure]; exact hi) (str x)
  rw [strs_set] at this
  exact this
theorem RDevAt.cstep {w : World} {R : RB} {d : Dev} (h : RDevAt w R d) {i : Nat} (hi : i < R.n) :
    RDevAt ((w.setCell ⟨R.bn, i, none⟩ (str (d.sure.getD i []))).setCell ⟨R.bw, i, none⟩ (.bool false)) R (cstep d i) := by
  have q1 : Chg (· = R.bn) w (w.setCell ⟨R.bn, i, none⟩ (str (d.sure.getD i []))) := chg_cell _ _ _ _
  have q2 : Chg (· = R.bw) (w.setCell ⟨R.bn, i, none⟩ (str (d.sure.getD i []))) ((w.setCell ⟨R.bn, i, none⟩ (str (d.sure.getD i []))).setCell ⟨R.bw, i, none⟩ (.bool false)) := chg_cell _ _ _ _
  refine ⟨q2.obj h.n3 (q1.obj h.n2 h.hb), (h.hs.chg q1 h.n4).chg q2 h.n5, ?_, ?_, ok_cstep h.ok hi, settled_cstep h.ok h.inv hi, h.n1, h.n2, h.n3, h.n4, h.n5, h.n6⟩
  · have := h.hn.set (i := i) (by unfold strs; simp [h.ok.lnow]; exact hi) (str (d.sure.getD i []))
    rw [strs_set] at this
    exact this.chg q2 h.n6
  · have := (h.hw.chg q1 (fun e => h.n6 e.symm)).set (i := i) (by unfold bools; simp [h.ok.lpend]; exact hi) (.bool false)
    rw [bools_lset] at this
    exact this
/-- A slice of ints, to be read. -/
theorem own_ints {w : World} {base : Nat} {v : Value} {l : List Nat} (h : w.ownsRow base 3 1 v l.length (ints l)) : ∃ a cap, v = .slice a l.length cap ∧ l.length ≤ maxLen ∧ ∀ j (x : Nat), l[j]? = some x → ∃ g, a = some ⟨g, 0, none⟩ ∧ base ≤ g ∧ w.cell? ⟨g, j, none⟩ = some (.int .i64 (x : Int)) := by
  have h0 := h
  obtain ⟨h1, ⟨rfl, h2⟩ | ⟨g, cap, cur, rfl, hg, hh, q1, q2, q3, q4⟩⟩ := h
  · refine ⟨none, 0, by rw [h2], by rw [h2]; unfold maxLen; omega, fun j x hj => ?_⟩
    have : j < l.length := (List.getElem?_eq_some_iff.1 hj).1
    omega
  · refine ⟨_, cap, rfl, by omega, fun j x hj => ⟨g, rfl, hg, ?_⟩⟩
    have hj' : j < l.length := (List.getElem?_eq_some_iff.1 hj).1
    have := h0.cellAt (j := j) (by omega)
    rw [this]; unfold ints; rw [List.getElem?_map, hj]; rfl

set_option maxHeartbeats 1000000 in
theorem rcrash_any (w : World) (R : RB) (d : Dev) (keep : List Bool) (v : Value) (G : Nat → Prop) (h : RDevAt w R d) (hG : ∀ k, G k → ¬ R.S k) (hkv : BoolsAt w v G keep) :
    Calls Try.prog 17 #[R.ptr, v] w fun e w' => e = .returned (.tuple #[]) ∧ RDevAt w' R (d.crash keep) ∧ Chg R.S w w' := by
  obtain ⟨ka, cap, rfl, hkl, hka⟩ := hkv
  have n65 := h.ok.hi
  have HKA := Lib.hid hka
  unfold maxLen at hkl
  have pl : d.pending.length ≤ d.pend.length := pendTo_length _ _
  rw [h.ok.lpend] at pl
  have H := Lib.hid h; clear h hka
  have PEND := Lib.hid (rpending_any w R d H.out)
  unfold RB.ptr
  go_enter Try.func17, Try.ntmps17
  go_wp2_with fail
  refine (PEND.out).mono ?_
  rintro e w1 ⟨v, rfl, o1, k1⟩
  obtain ⟨la, lc, rfl, hll, hlc⟩ := own_ints o1
  have HLC := Lib.hid hlc
  have D1 := Lib.hid (H.out.chg k1 (fun _ _ e => e))
  have K1 := Lib.hid k1
  have hw1 := k1.size
  clear o1 k1 hlc PEND
  go_wp2
  go_loopw [5] (fun i wr => ∃ k : Nat, k ≤ d.pending.length ∧ i = .int .i64 k ∧ RDevAt wr R (kmid d keep k) ∧ Chg R.S w1 wr) (fun i _ => d.pending.length - (intOf i).toNat)
  case atStart => exact ⟨0, Nat.zero_le _, rfl, by rw [kmid_zero]; exact D1.out, Chg.refl _ _⟩
  case round =>
    obtain ⟨k, hk, rfl, hd, hc⟩ := hrel
    have HD := Lib.hid hd
    have HC := Lib.hid hc
    have c0 := hd.c0
    have c1 := hd.c1
    clear hd hc
    by_cases hlt : k < d.pending.length
    · obtain ⟨x, hx⟩ : ∃ x, d.pending[k]? = some x := ⟨_, List.getElem?_eq_getElem hlt⟩
      obtain ⟨g, rfl, hg, cl0⟩ := HLC.out k x hx
      have hxn : x < R.n := by have := (pendTo_get d.pend d.pend.length (Nat.le_refl _) k x hx).1; rw [H.out.ok.lpend] at this; exact this
      have HX := Lib.hid hx
      have cl := cell_chg HC.out (fun e => by have := H.out.lt e; omega) cl0
      clear cl0 hx
      by_cases hkk : k < keep.length
      · obtain ⟨kb, ko, rfl, hkb, ck0⟩ := HKA.out _ hkk
        have ck := cell_chg HC.out (hG kb hkb) (cell_chg K1.out (fun e => e) ck0)
        clear ck0
        have hge : decide ((k : Int) < (keep.length : Int)) = true := by rw [decide_eq_true_eq]; omega
        by_cases hkp : keep.getD k false = true
        · have SM := Lib.hid (kmid_yes H.out.ok HX.out hkp)
          rw [hkp] at ck
          clear hkp
          have cn := HD.out.hn.cell (strs_get (l := d.now) (k := x) (by rw [H.out.ok.lnow]; exact hxn))
          unfold str at cn
          generalize hy : d.now.getD x [] = y at cn
          have HY := Lib.hid hy
          clear hy
          go_wp2
          refine wp_still_tail_drew 19 (by kernel_rfl) (by kernel_rfl) ?_
          simp only [List.take_succ_cons, List.take_zero, List.drop_succ_cons, List.drop_zero]
          repeat still_step
          refine wpStill_nil ?_
          have hd2 := HD.out.chg (chg_drew (fun _ => False) wr) (fun _ _ e => e)
          have hc2 := HC.out.drew
          clear c0 c1 cn HD HC cl ck
          generalize wr.drew = wd at *
          have cs := hd2.hs.cell (strs_get (l := (kmid d keep k).sure) (k := x) (by rw [hd2.ok.lsure]; exact hxn))
          have fs := hd2.hs.frozen x
          unfold str at cs
          generalize hz : (kmid d keep k).sure.getD x [] = z at cs
          clear hz
          have okn := ok_kmid H.out.ok keep (k + 1)
          have sen := settled_kmid H.out.ok H.out.inv keep (k + 1)
          rw [SM.out, HY.out] at okn sen
          have dn := hd2.sureSet hxn y okn sen
          rw [← HY.out, ← SM.out, HY.out] at dn
          have DN := Lib.hid dn
          have C2 := Lib.hid hc2
          clear dn okn sen hd2 hc2
          refine wpList_store_one rfl 9 (.tmp 43) (.tmp 42) rfl R.bs x rfl (.string ⟨y.toArray⟩) rfl rfl rfl Try.sizeStr _ cs fs ?_
          intro w3 hw3
          unfold str at DN
          have Q3 := Lib.hid (C2.out.trans ((chg_cell wd R.bs x (.string ⟨y.toArray⟩)).mono (fun k _ e => (.inr (.inl e) : R.S k))))
          rw [← hw3] at DN Q3
          clear cs fs hw3
          go_wp2
          go_roundw
          case rel => exact ⟨k + 1, by omega, by go_num, DN.out, Q3.out⟩
          case measure => simp [intOf]; omega
        · have hkp : keep.getD k false = false := by simpa using hkp
          rw [hkp] at ck
          have SM := Lib.hid (kmid_no (d := d) hkp)
          clear hkp
          go_wp2
          go_roundw
          case rel => exact ⟨k + 1, by omega, by go_num, by rw [SM.out]; exact HD.out, HC.out⟩
          case measure => simp [intOf]; omega
      · have hge : decide ((k : Int) < (keep.length : Int)) = false := by rw [decide_eq_false_iff_not]; omega
        have SM := Lib.hid (kmid_no (d := d) (keep := keep) (j := k) (by rw [List.getD_eq_getElem?_getD, List.getElem?_eq_none (by omega)]; rfl))
        go_wp2
        go_roundw
        case rel => exact ⟨k + 1, by omega, by go_num, by rw [SM.out]; exact HD.out, HC.out⟩
        case measure => simp [intOf]; omega
    · obtain rfl : k = d.pending.length := by omega
      have CE := Lib.hid (crash_end H.out.ok H.out.inv keep)
      have CS := Lib.hid (settled_crash d keep)
      have OKC := Lib.hid (H.out.ok.crash keep)
      generalize kmid d keep d.pending.length = d' at *
      have Kwr := Lib.hid ((K1.out.mono (T := R.S) (fun _ _ e => e.elim)).trans HC.out)
      obtain ⟨wo, hwo⟩ : ∃ wo, wo = wr := ⟨_, rfl⟩
      clear HLC HKA D1 hlt
      rw [← hwo] at HD Kwr c0 c1 ⊢
      clear hwo HC
      go_wp2
      go_loopw [6] (fun i wr => ∃ k : Nat, k ≤ R.n ∧ i = .int .i64 k ∧ RDevAt wr R (cmid d' k) ∧ Chg R.S w wr) (fun i _ => R.n - (intOf i).toNat)
      case atStart => exact ⟨0, Nat.zero_le _, rfl, HD.out, Kwr.out⟩
      case round =>
        clear c0 c1
        obtain ⟨k, hk, rfl, hd, hc⟩ := hrel
        have HD := Lib.hid hd
        have HC := Lib.hid hc
        have c0 := hd.c0
        have c1 := hd.c1
        clear hd hc
        by_cases hlt : k < R.n
        · have cn := HD.out.hs.cell (strs_get (l := (cmid d' k).sure) (k := k) (by rw [HD.out.ok.lsure]; exact hlt))
          unfold str at cn
          generalize hx : (cmid d' k).sure.getD k [] = x at cn
          have HX := Lib.hid hx
          clear hx
          go_wp2
          refine wp_still_tail_drew 13 (by kernel_rfl) (by kernel_rfl) ?_
          simp only [List.take_succ_cons, List.take_zero, List.drop_succ_cons, List.drop_zero]
          repeat still_step
          refine wpStill_nil ?_
          have hd2 := HD.out.chg (chg_drew (fun _ => False) wr) (fun _ _ e => e)
          have hc2 := HC.out.drew
          clear c0 c1 cn HD HC
          generalize wr.drew = wd at *
          have cs := hd2.hn.cell (strs_get (l := (cmid d' k).now) (k := k) (by rw [hd2.ok.lnow]; exact hlt))
          have fs := hd2.hn.frozen k
          have dn := hd2.cstep hlt
          rw [HX.out] at dn
          unfold str at cs dn
          change RDevAt _ R (cmid d' (k + 1)) at dn
          generalize hy : (cmid d' k).now.getD k [] = y at cs
          clear hy
          refine wpList_store_one rfl 9 (.tmp 65) (.tmp 64) rfl R.bn k rfl (.string ⟨x.toArray⟩) rfl rfl rfl Try.sizeStr _ cs fs ?_
          intro w3 hw3
          have q3 : Chg (· = R.bn) wd w3 := by rw [hw3]; exact chg_cell _ _ _ _
          have r3 := hd2.hw.chg q3 (fun e => hd2.n6 e.symm)
          have f2 := r3.frozen k
          have cb := r3.cell (bools_lget (l := (cmid d' k).pend) (k := k) (by rw [hd2.ok.lpend]; exact hlt))
          have c2 := cell_chg q3 hd2.n2 hd2.c2
          have Q3 := Lib.hid (hc2.trans (q3.mono (fun k _ e => (.inr (.inr (.inl e)) : R.S k))))
          rw [← hw3] at dn
          have DN := Lib.hid dn
          clear q3 r3 dn hd2 hc2 hw3 cs fs
          generalize (cmid d' k).pend.getD k false = z at *
          go_wp2
          go_roundw
          case rel => exact ⟨k + 1, by omega, by go_num, DN.out, Q3.out.trans ((chg_cell _ _ _ _).mono (fun k _ e => .inr (.inr (.inr e))))⟩
          case measure => simp [intOf]; omega
        · obtain rfl : k = R.n := by omega
          have c3 := HD.out.c3
          have c4 := HD.out.c4
          have f3 : wr.frozen? ⟨R.b, 3, none⟩ = false := frozen_of HD.out.hb
          have f4 : wr.frozen? ⟨R.b, 4, none⟩ = false := frozen_of HD.out.hb
          go_wp2
          go_end0
          have q := (chg_cell wr R.b 4 (.bool false)).trans (chg_cell _ R.b 3 (.int .i64 (-1)))
          have okc := OKC.out
          rw [CE.out] at okc ⊢
          exact ⟨rfl, HD.out.head q ((obj_setCell (obj_setCell HD.out.hb _) _).trans rfl) rfl rfl rfl okc, HC.out.trans (q.mono (fun k _ e => .inl e))⟩
end Go.Proofs.Ytnmgnhhipgiggaa
