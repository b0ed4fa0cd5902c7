/-
  Package accept: the looker's words.
-/
import Derived.Test.YtdgmjablkdemmaaGreatULook
namespace Go.Proofs.YtdgmjablkdemmaaGreat
open Go.RowKit Go.Maps

/-- A looker in memory. -/
structure LookIn (w : World) (lk mS nS : Nat) (fS : Lit → Option Value) (C : Nat → Prop) (ra : Option Addr) (R : List BRul) (rc : Nat) (b : Int) (G : Nat → Prop) : Prop where
  own : w.heap[lk]? = some (.cells #[.slice ra R.length rc, .int .i64 b, .map (some mS)] 100 (0, 0))
  map : MapV Tryz.prog 23 w mS nS fS
  rules : RulesAt w (.slice ra R.length rc) G R
  few : (R.length ≤ 400 ∧ ∀ r ∈ R, r.1.size ≤ 400) ∨ (400 < R.length ∧ ∀ x : ByteArray, fS (.string x.data.toList) = none)
  row : ∀ (x : ByteArray) v, fS (.string x.data.toList) = some v → ∃ n a L c, v = .agg #[.int .i64 ((n : Nat) : Int), .slice a (L : List ByteArray).length c] ∧ n ≤ R.length ∧ (n = R.length ∨ R.length ≤ rc) ∧ WordsAt w (.slice a L.length c) C L ∧ Row12 (R.take n) b x L ∧ ∀ y ∈ L, y.size ≤ 16
  typ : ∀ k, C k → ∃ cs, w.heap[k]? = some (.cells cs 23 (0, 0))
  gb : ∀ k, G k → k < w.heap.size ∧ k ≠ mS ∧ k ≠ lk
theorem LookIn.chg {S : Nat → Prop} {w w' : World} {lk mS nS : Nat} {fS : Lit → Option Value} {C : Nat → Prop} {ra : Option Addr} {R : List BRul} {rc : Nat} {b : Int} {G : Nat → Prop} (h : LookIn w lk mS nS fS C ra R rc b G) (hc : Chg S w w') (h1 : ¬ S lk) (h2 : ¬ S mS) (h3 : ∀ k, C k → ¬ S k) (h4 : ∀ k, G k → ¬ S k) : LookIn w' lk mS nS fS C ra R rc b G :=
  ⟨hc.obj h1 h.own, h.map.chg hc h2, h.rules.chg hc h4, h.few, fun x v hv => by
    obtain ⟨n, a, L, c, e, q1, q2, q3, q4⟩ := h.row x v hv
    exact ⟨n, a, L, c, e, q1, q2, q3.chg hc h3, q4⟩, fun k hk => by
    obtain ⟨cs, q⟩ := h.typ k hk
    exact ⟨cs, hc.obj (h3 k hk) q⟩, fun k hk => ⟨Nat.lt_of_lt_of_le (h.gb k hk).1 hc.size, (h.gb k hk).2⟩⟩
theorem LookIn.ne {w : World} {lk mS nS : Nat} {fS : Lit → Option Value} {C : Nat → Prop} {ra : Option Addr} {R : List BRul} {rc : Nat} {b : Int} {G : Nat → Prop} (h : LookIn w lk mS nS fS C ra R rc b G) : lk ≠ mS ∧ (∀ k, C k → k ≠ mS) ∧ (∀ k, C k → k < w.heap.size) ∧ lk < w.heap.size ∧ mS < w.heap.size :=
  ⟨h.map.ne_cells h.own, fun k hk => by
    obtain ⟨cs, q⟩ := h.typ k hk
    exact h.map.ne_cells q, fun k hk => by
    obtain ⟨cs, q⟩ := h.typ k hk
    exact lt_of_obj q, lt_of_obj h.own, h.map.lt⟩
theorem LookIn.ask {w w1 : World} {lk mS nS : Nat} {fS : Lit → Option Value} {C : Nat → Prop} {ra : Option Addr} {R : List BRul} {rc : Nat} {b : Int} {G : Nat → Prop} (h : LookIn w lk mS nS fS C ra R rc b G) {x : ByteArray} (hx : x.size ≤ maxLen) (k : Chg (fun _ => False) w w1) : Asks w1 (.slice ra R.length rc) R x :=
  ⟨by
    have := h.rules.chg k (fun _ _ e => e)
    obtain ⟨la, cap, e1, e2, e3⟩ := this
    exact ⟨la, cap, e1, e2, fun j r hj => by
      obtain ⟨lb, lo, q1, q2, q3⟩ := e3 j r hj
      exact ⟨lb, lo, q1, Nat.lt_of_lt_of_le (h.gb lb q2).1 k.size, q3⟩⟩, h.few.imp (fun q => q) (fun q => q.1), hx⟩
theorem take_all (R : List BRul) : R.take R.length = R := List.take_length
/-- One more word is remembered. -/
theorem LookIn.more {w w' : World} {lk mS nS nS' : Nat} {fS : Lit → Option Value} {C C' : Nat → Prop} {ra : Option Addr} {R : List BRul} {rc : Nat} {b : Int} {G : Nat → Prop} (h : LookIn w lk mS nS fS C ra R rc b G) (hc : Chg (· = mS) w w') {x : ByteArray} {a : Option Addr} {L : List ByteArray} {c : Nat}
    (hm : MapV Tryz.prog 23 w' mS nS' (putV fS (.string x.data.toList) (some (.agg #[.int .i64 (R.length : Int), .slice a L.length c])))) (hC : ∀ k, C k → C' k) (hW : WordsAt w' (.slice a L.length c) C' L) (hR : Row12 R b x L) (h16 : ∀ y ∈ L, y.size ≤ 16) (ht : ∀ k, C' k → ∃ cs, w'.heap[k]? = some (.cells cs 23 (0, 0))) :
    LookIn w' lk mS nS' (putV fS (.string x.data.toList) (some (.agg #[.int .i64 (R.length : Int), .slice a L.length c]))) C' ra R rc b G := by
  obtain ⟨n1, n2, n3, n4, n5⟩ := h.ne
  refine ⟨hc.obj n1 h.own, hm, h.rules.chg hc (fun k hk => (h.gb k hk).2.1), ?_, fun y v hv => ?_, ht, fun k hk => ⟨Nat.lt_of_lt_of_le (h.gb k hk).1 hc.size, (h.gb k hk).2⟩⟩
  · refine .inl ?_
    have := (askErr_zero (rowErr_zero hR.err).1).2.2.2
    rcases h.few with q | q
    · exact q
    · omega
  · by_cases e : y = x
    · subst e
      rw [putV_same] at hv
      cases hv
      exact ⟨R.length, a, L, c, rfl, Nat.le_refl _, .inl rfl, hW, by rw [take_all]; exact hR, h16⟩
    · rw [putV_other _ (fun q => e (bytes_ext (by injection q)))] at hv
      obtain ⟨n, a, L, c, e, q1, q2, q3, q4⟩ := h.row y v hv
      exact ⟨n, a, L, c, e, q1, q2, (q3.chg hc n2).up hC, q4⟩
theorem setAt_rw {w : World} {base : Nat} {va : Value} {r : List Ent} (h : w.ownsRow base 23 1 va r.length (rwCells r)) (hs : ∀ u ∈ wordsR r, (bar u).size ≤ maxLen) : SetAt w va (fun k => va.ownBlock = some k) ((wordsR r).map bar) := by
  rw [rw_words, show r.length = ((wordsR r).map bar).length by rw [List.length_map, wordsR_length]] at h
  exact setAt_own h (fun x hx => by
    obtain ⟨u, hu, rfl⟩ := List.mem_map.1 hx
    exact hs u hu)
def LookAt (w : World) (lk mS : Nat) (ra : Option Addr) (R : List BRul) (rc : Nat) (b : Int) (G : Nat → Prop) (N : Nat) (B : Nat → Prop) : Prop :=
  ∃ fS nS C, LookIn w lk mS nS fS C ra R rc b G ∧ nS ≤ N ∧ (∀ k, C k → B k) ∧ B lk ∧ B mS ∧ ∀ k, B k → k < w.heap.size
theorem LookAt.chg {S : Nat → Prop} {w w' : World} {lk mS : Nat} {ra : Option Addr} {R : List BRul} {rc : Nat} {b : Int} {G : Nat → Prop} {N : Nat} {B : Nat → Prop} (h : LookAt w lk mS ra R rc b G N B) (hc : Chg S w w') (h1 : ∀ k, B k → ¬ S k) (h2 : ∀ k, G k → ¬ S k) : LookAt w' lk mS ra R rc b G N B := by
  obtain ⟨fS, nS, C, q1, q2, q3, q4, q5, q6⟩ := h
  exact ⟨fS, nS, C, q1.chg hc (h1 _ q4) (h1 _ q5) (fun k hk => h1 k (q3 k hk)) h2, q2, q3, q4, q5, fun k hk => Nat.lt_of_lt_of_le (q6 k hk) hc.size⟩
theorem LookAt.le {w : World} {lk mS : Nat} {ra : Option Addr} {R : List BRul} {rc : Nat} {b : Int} {G : Nat → Prop} {N N' : Nat} {B : Nat → Prop} (h : LookAt w lk mS ra R rc b G N B) (hN : N ≤ N') : LookAt w lk mS ra R rc b G N' B := by
  obtain ⟨fS, nS, C, q1, q2, q⟩ := h
  exact ⟨fS, nS, C, q1, Nat.le_trans q2 hN, q⟩
/-- What the looker's words answers. -/
def LWordsRes (w : World) (lk mS : Nat) (ra : Option Addr) (R : List BRul) (rc : Nat) (b : Int) (G : Nat → Prop) (N : Nat) (B : Nat → Prop) (x : ByteArray) (e : Ending) (w' : World) : Prop :=
  ∃ B', LookAt w' lk mS ra R rc b G (N + 1) B' ∧ Chg (· = mS) w w' ∧ (∀ k, B' k → B k ∨ w.heap.size ≤ k) ∧
    ((∃ a L c, e = .returned (.tuple #[.slice a (L : List ByteArray).length c, .int .i64 0]) ∧ WordsAt w' (.slice a L.length c) (fun _ => True) L ∧ Row12 R b x L) ∨ (rowErr R x b ≠ 0 ∧ e = .returned (.tuple #[.slice none 0 0, .int .i64 (rowErr R x b)])))
theorem Tryz.zeroLook (w : World) : (zeroValue 142).run Tryz.prog w = .ok (.agg #[.int .i64 0, .slice none 0 0]) w := by kernel_rfl
set_option maxHeartbeats 8000000 in
set_option maxRecDepth 100000 in
theorem lwords_any (w : World) (lk mS : Nat) (ra : Option Addr) (R : List BRul) (rc : Nat) (b : Int) (G : Nat → Prop) (N : Nat) (B : Nat → Prop) (x : ByteArray) (h : LookAt w lk mS ra R rc b G N B) (hx : x.size ≤ maxLen) (hN : N ≤ 1000000) :
    Calls Tryz.prog 75 #[.pointer (some ⟨lk, 0, none⟩), .string x] w (LWordsRes w lk mS ra R rc b G N B x) := by
  obtain ⟨fS, nS, C, h1, hn, hCB, hBl, hBm, hBs⟩ := h
  have hRl : R.length ≤ maxLen := by obtain ⟨_, _, e, q, _⟩ := h1.rules; exact q
  unfold maxLen at hRl
  have KEY := Lib.hid (wordKey x hx)
  have ZL := Lib.hid (Tryz.zeroLook)
  have c2 := cell_of (o := 2) h1.own rfl
  have BS := Lib.hid (show (∀ k, C k → B k) ∧ B lk ∧ B mS ∧ (∀ k, B k → k < w.heap.size) ∧ nS ≤ N ∧ N ≤ 1000000 ∧ x.size ≤ maxLen from ⟨hCB, hBl, hBm, hBs, hn, hN, hx⟩)
  have NE := Lib.hid h1.ne
  have H1 := Lib.hid h1
  clear h1 hn hCB hBl hBm hBs hN hx
  go_enter Tryz.func75, Tryz.ntmps75
  cases hf : fS (.string x.data.toList) with
  | none =>
    go_wp2_with (at_lookup; refine wpList_lookV_ok rfl (.tmp 14) (.tmp 15) 98 rfl 23 142 Tryz.wordKeyed Tryz.underlying98 _ (ZL.out _) mS nS fS rfl H1.out.map _ _ rfl KEY.out (.agg #[.int .i64 0, .slice none 0 0]) false (by rw [hf]; rfl) (by rw [hf]; rfl) ?_)
    clear hf
    have ka := chg_alloc (fun _ => False) w (.cells #[.int .i64 0, .slice none 0 0] 142)
    have O1 := Lib.hid (obj_alloc_new w (.cells #[.int .i64 0, .slice none 0 0] 142))
    have hsz : w.heap.size < (w.alloc (.cells #[.int .i64 0, .slice none 0 0] 142)).heap.size := by rw [World.size_alloc]; omega
    have H2 := Lib.hid (H1.out.chg ka (fun e => e) (fun e => e) (fun _ _ e => e) (fun _ _ e => e))
    have K1 := Lib.hid ka
    have e0 := cell_of (o := 0) H2.out.own rfl
    have e1 := cell_of (o := 1) H2.out.own rfl
    clear ka c2
    go_wp2_with fail
    generalize w.alloc (.cells #[.int .i64 0, .slice none 0 0] 142) = w1 at *
    have u0 : w1.drew.cell? ⟨lk, 0, none⟩ = some (.slice ra R.length rc) := e0
    have u1 : w1.drew.cell? ⟨lk, 1, none⟩ = some (.int .i64 b) := e1
    refine wp_region_plan (N := 58) [.rd [0, 1, 2, 3, 4, 5, 6, 7, 8], .ef 9, .rd [10, 11, 12, 13, 14]] (fun w' => w'.cell? ⟨lk, 0, none⟩ = some (.slice ra R.length rc) ∧ w'.cell? ⟨lk, 1, none⟩ = some (.int .i64 b)) (by kernel_rfl) (by kernel_rfl) (by kernel_rfl) (by kernel_rfl) (Nat.le_of_ble_eq_true rfl) ⟨e0, e1⟩ ?_
    refine plan_rd (A := ?PAx) ?phax ?phbx
    case phax =>
      rintro w' ⟨q0, q1⟩ K hK
      simp only [opsAt, List.filterMap_cons, List.filterMap_nil, List.getElem?_toArray, List.getElem?_cons_succ, List.getElem?_cons_zero]
      repeat still_step
      refine wpStill_nil ?_
      exact hK
    clear u0 u1 e0 e1
    have kd := chg_drew (fun _ => False) w1
    have H3 := Lib.hid (H2.out.chg kd (fun e => e) (fun e => e) (fun _ _ e => e) (fun _ _ e => e))
    have K3 := Lib.hid (K1.out.trans kd)
    have O3 := Lib.hid (kd.obj (fun e => e) O1.out)
    have hsz3 := Nat.lt_of_lt_of_le hsz kd.size
    have AS := Lib.hid (H3.out.ask BS.out.2.2.2.2.2.2 (Chg.refl _ _))
    clear kd H2 K1 O1 hsz
    generalize w1.drew = w3 at *
    by_cases hr : rowErr R x b = 0
    rotate_left
    · have g : (rowErr R x b != 0) = true := by rw [bne_iff_ne]; exact hr
      have AL := Lib.hid (all_err AS.out rfl hr)
      have HR := Lib.hid hr
      clear hr AS
      refine plan_ef rfl ?_
      go_wp2_with fail
      (with_reducible refine (AL.out).mono ?_)
      rintro e w4 ⟨rfl, k4⟩
      have H4 := Lib.hid (H3.out.chg k4 (fun e => e) (fun e => e) (fun _ _ e => e) (fun _ _ e => e))
      have K4 := Lib.hid ((K3.out.trans k4).mono (T := (· = mS)) (fun _ _ e => e.elim))
      clear k4 H3 K3 O3 hsz3 AL
      go_wp2_with fail
      refine ⟨⟨cell_of (o := 0) H4.out.own rfl, cell_of (o := 1) H4.out.own rfl⟩, ?_⟩
      refine plan_rd (A := ?PBx) ?phcx ?phdx
      case phcx =>
        intro w' hS K hK
        clear hS
        simp only [opsAt, List.filterMap_cons, List.filterMap_nil, List.getElem?_toArray, List.getElem?_cons_succ, List.getElem?_cons_zero]
        repeat still_step
        refine wpStill_nil ?_
        exact hK
      refine plan_nil ?_
      go_wp2
      go_ret2
      exact ⟨B, ⟨fS, nS, C, H4.out, Nat.le_succ_of_le BS.out.2.2.2.2.1, BS.out.1, BS.out.2.1, BS.out.2.2.1, fun k hk => Nat.lt_of_lt_of_le (BS.out.2.2.2.1 k hk) K4.out.size⟩, K4.out, fun k hk => .inl hk, .inr ⟨HR.out, rfl⟩⟩
    obtain ⟨_, rr, hrr⟩ := rowErr_zero hr
    have AL := Lib.hid (all_ok AS.out hr hrr)
    have RS := Lib.hid (row_sizes hr hrr)
    have RT := Lib.hid (show Row12 R b x ((wordsR rr).map bar) by
      have := row12_tell hr
      unfold tellL rowD at this
      rw [if_pos hr, hrr] at this
      exact this)
    clear hr hrr AS
    refine plan_ef rfl ?_
    go_wp2_with fail
    (with_reducible refine (AL.out).mono ?_)
    rintro e w4 ⟨va, rfl, ho, k4⟩
    have HT0 := Lib.hid (fun k hk => own_cells ho (k := k) hk)
    have HG0 := Lib.hid (fun k (hk : va.ownBlock = some k) => (ho.lt k hk).1)
    have HW0 := Lib.hid (setAt_rw ho (fun u hu => Nat.le_trans (RS.out.1 u hu).2 (by decide)))
    clear ho
    obtain ⟨L, HL⟩ : ∃ L, Hid (L = (wordsR rr).map bar) := ⟨_, Lib.hid rfl⟩
    have H16 := Lib.hid (show ∀ y ∈ L, y.size ≤ 16 from fun y hy => by
      rw [HL.out] at hy
      obtain ⟨u, hu, rfl⟩ := List.mem_map.1 hy
      exact (RS.out.1 u hu).2)
    rw [← HL.out] at HW0 RT
    obtain ⟨a, c, hva⟩ := HW0.out.shape
    subst hva
    have HW4 := Lib.hid (HW0.out.at_.up (G' := fun k => C k ∨ (Value.slice a L.length c).ownBlock = some k) (fun k hk => .inr hk))
    have RW := RT
    have H4 := Lib.hid (H3.out.chg k4 (fun e => e) (fun e => e) (fun _ _ e => e) (fun _ _ e => e))
    have O4 := Lib.hid (k4.obj (fun e => e) O3.out)
    have HT := Lib.hid (show ∀ k, (C k ∨ (Value.slice a L.length c).ownBlock = some k) → ∃ cs, w4.heap[k]? = some (.cells cs 23 (0, 0)) from fun k hk => by
      rcases hk with q | q
      · exact H4.out.typ k q
      · exact HT0.out k q)
    have HCC := Lib.hid (show ∀ k, C k → (C k ∨ (Value.slice a L.length c).ownBlock = some k) from fun k hk => .inl hk)
    have BN := Lib.hid (show ∀ k, (C k ∨ (Value.slice a L.length c).ownBlock = some k) → B k ∨ w.heap.size ≤ k from fun k hk => by
      rcases hk with q | q
      · exact .inl (BS.out.1 k q)
      · exact .inr (Nat.le_trans (Nat.le_of_lt hsz3) (HG0.out k q)))
    have hsz4 := Nat.lt_of_lt_of_le hsz3 k4.size
    have K4 := Lib.hid (K3.out.trans k4)
    have hll : L.length ≤ maxLen := by obtain ⟨_, _, _, q, _⟩ := HW4.out; exact q
    unfold maxLen at hll
    have HG1 := Lib.hid (fun k (hk : (Value.slice a L.length c).ownBlock = some k) => Nat.lt_of_lt_of_le hsz3 (HG0.out k hk))
    clear k4 H3 K3 O3 hsz3 AL HW0 HT0 HG0 RS RT
    go_wp2_with fail
    refine ⟨⟨cell_of (o := 0) H4.out.own rfl, cell_of (o := 1) H4.out.own rfl⟩, ?_⟩
    refine plan_rd (A := ?PCx) ?phex ?phfx
    case phex =>
      intro w' hS K hK
      clear hS
      simp only [opsAt, List.filterMap_cons, List.filterMap_nil, List.getElem?_toArray, List.getElem?_cons_succ, List.getElem?_cons_zero]
      repeat still_step
      refine wpStill_nil ?_
      exact hK
    refine plan_nil ?_
    have t0 := cell_of (o := 0) O4.out rfl
    have t1 := cell_of (o := 1) O4.out rfl
    have f0 := frozen_of (o := 0) O4.out
    have f1 := frozen_of (o := 1) O4.out
    have e0 := cell_of (o := 0) H4.out.own rfl
    have e2 := cell_of (o := 2) H4.out.own rfl
    have hne : ¬ lk = w.heap.size := fun e => by have := NE.out.2.2.2.1; omega
    have hne2 : ¬ mS = w.heap.size := fun e => by have := NE.out.2.2.2.2; omega
    have NCC := Lib.hid (show ∀ k, (fun k => C k ∨ (Value.slice a L.length c).ownBlock = some k) k → ¬ k = w.heap.size from fun k hk e => by
      rcases hk with q | q
      · have := NE.out.2.2.1 k q; omega
      · have := HG1.out k q; omega)
    have kc : Chg (· = w.heap.size) w4 ((w4.setCell ⟨w.heap.size, 1, none⟩ (.slice a L.length c)).setCell ⟨w.heap.size, 0, none⟩ (.int .i64 (R.length : Int))) := ((chg_cell w4 w.heap.size 1 (.slice a L.length c)).trans (chg_cell _ w.heap.size 0 (.int .i64 (R.length : Int))))
    have OB : ((w4.setCell ⟨w.heap.size, 1, none⟩ (.slice a L.length c)).setCell ⟨w.heap.size, 0, none⟩ (.int .i64 (R.length : Int))).heap[w.heap.size]? = some (.cells #[.int .i64 (R.length : Int), .slice a L.length c] 142 (0, 0)) := by
      have := obj_setCell (o := 0) (obj_setCell (o := 1) O4.out (.slice a L.length c)) (.int .i64 (R.length : Int))
      simpa using this
    have H5 := Lib.hid (H4.out.chg kc hne hne2 (fun k hk => fun e => by have := NE.out.2.2.1 k hk; omega) (fun k hk e => by have := (H1.out.gb k hk).1; omega))
    have HW5 := Lib.hid (HW4.out.chg kc NCC.out)
    have HT5 := Lib.hid (show ∀ k, (fun k => C k ∨ (Value.slice a L.length c).ownBlock = some k) k → ∃ cs, (((w4.setCell ⟨w.heap.size, 1, none⟩ (.slice a L.length c)).setCell ⟨w.heap.size, 0, none⟩ (.int .i64 (R.length : Int)))).heap[k]? = some (.cells cs 23 (0, 0)) from fun k hk => by
      obtain ⟨cs, q⟩ := HT.out k hk
      exact ⟨cs, kc.obj (NCC.out k hk) q⟩)
    have O5 := Lib.hid OB
    have K5 := Lib.hid (K4.out.next kc (fun k hk e => by omega))
    have hsz5 := Nat.lt_of_lt_of_le hsz4 kc.size
    have hgm := Lib.hid hne2
    clear kc OB hne2
    go_wp2_with fail
    clear t0 t1 f0 f1 e0 e2 H4 HW4 O4 K4 HT hsz4 hne
    generalize ((w4.setCell ⟨w.heap.size, 1, none⟩ (.slice a L.length c)).setCell ⟨w.heap.size, 0, none⟩ (.int .i64 (R.length : Int))) = w5 at *
    have kd := chg_drew (fun _ => False) w5
    have H6 := Lib.hid (H5.out.chg kd (fun e => e) (fun e => e) (fun _ _ e => e) (fun _ _ e => e))
    have HW6 := Lib.hid (HW5.out.chg kd (fun _ _ e => e))
    have HT6 := Lib.hid (show ∀ k, (fun k => C k ∨ (Value.slice a L.length c).ownBlock = some k) k → ∃ cs, w5.drew.heap[k]? = some (.cells cs 23 (0, 0)) from fun k hk => HT5.out k hk)
    have O6 := Lib.hid (kd.obj (fun e => e) O5.out)
    have K6 := Lib.hid (K5.out.trans kd)
    clear kd H5 HW5 HT5 O5 K5
    have e0 : w5.drew.cell? ⟨lk, 2, none⟩ = some (.map (some mS)) := cell_of (o := 2) H6.out.own rfl
    have b0 : w5.drew.cell? ⟨w.heap.size, 0, none⟩ = some (.int .i64 (R.length : Int)) := cell_of (o := 0) O6.out rfl
    have b1 : w5.drew.cell? ⟨w.heap.size, 1, none⟩ = some (.slice a L.length c) := cell_of (o := 1) O6.out rfl
    refine wp_still_tail_drew 6 (by kernel_rfl) (by kernel_rfl) ?_
    simp only [List.take_succ_cons, List.take_zero, List.drop_succ_cons, List.drop_zero]
    repeat still_step
    refine wpStill_nil ?_
    clear e0 b0 b1
    generalize w5.drew = w6 at *
    refine wpList_putV rfl (.tmp 53) (.tmp 54) (.tmp 55) 98 rfl 23 142 Tryz.wordKeyed Tryz.underlying98 mS nS fS rfl H6.out.map ?pa1 (.string x) (.agg #[.int .i64 (R.length : Int), .slice a L.length c]) (.string x.data.toList) rfl rfl KEY.out ?pb1
    case pa1 =>
      have := BS.out.2.2.2.2.1
      have := BS.out.2.2.2.2.2.1
      unfold maxLen
      omega
    intro w7 n7 hm7 _ _ hn7 k7
    have MNC := Lib.hid (show ∀ k, (fun k => C k ∨ (Value.slice a L.length c).ownBlock = some k) k → k ≠ mS from fun k hk => by
      obtain ⟨cs, q⟩ := HT6.out k hk
      exact H6.out.map.ne_cells q)
    have HW7 := Lib.hid (HW6.out.chg k7 MNC.out)
    have HT7 := Lib.hid (show ∀ k, (fun k => C k ∨ (Value.slice a L.length c).ownBlock = some k) k → ∃ cs, w7.heap[k]? = some (.cells cs 23 (0, 0)) from fun k hk => by
      obtain ⟨cs, q⟩ := HT6.out k hk
      exact ⟨cs, k7.obj (MNC.out k hk) q⟩)
    have H7 := Lib.hid (H6.out.more k7 hm7 HCC.out HW7.out RW.out H16.out HT7.out)
    have K7 := Lib.hid ((K6.out.mono (T := (· = mS)) (fun _ _ e => e.elim)).trans k7)
    have l1 := cell_of (o := 1) (k7.obj (fun e => hgm.out e.symm) O6.out) rfl
    have hnn : n7 ≤ N + 1 := by have := BS.out.2.2.2.2.1; omega
    clear hm7 hn7 k7 H6 HW6 HT6 O6 K6
    go_wp2
    go_ret2
    refine ⟨fun k => B k ∨ (fun k => C k ∨ (Value.slice a L.length c).ownBlock = some k) k, ⟨_, n7, _, H7.out, hnn, fun k hk => .inr hk, .inl BS.out.2.1, .inl BS.out.2.2.1, fun k hk => ?_⟩, K7.out, fun k hk => ?_, .inl ⟨a, L, c, rfl, HW7.out.up (fun _ _ => trivial), RW.out⟩⟩
    · rcases hk with q | q
      · exact Nat.lt_of_lt_of_le (BS.out.2.2.2.1 k q) K7.out.size
      · obtain ⟨cs, z⟩ := HT7.out k q
        exact lt_of_obj z
    · rcases hk with q | q
      · exact .inl q
      · exact BN.out k q
  | some v =>
    obtain ⟨n, a, L, c, rfl, hn, hcap, hW, hrow, h16⟩ := H1.out.row x v hf
    have hll : L.length ≤ maxLen := by obtain ⟨_, _, _, q, _⟩ := hW; exact q
    unfold maxLen at hll
    have few : R.length ≤ 400 ∧ ∀ r ∈ R, r.1.size ≤ 400 := by
      rcases H1.out.few with q | q
      · exact q
      · rw [q.2 x] at hf; cases hf
    go_wp2_with (at_lookup; refine wpList_lookV_ok rfl (.tmp 14) (.tmp 15) 98 rfl 23 142 Tryz.wordKeyed Tryz.underlying98 _ (ZL.out _) mS nS fS rfl H1.out.map _ _ rfl KEY.out (.agg #[.int .i64 (n : Int), .slice a L.length c]) true (by rw [hf]; rfl) (by rw [hf]; rfl) ?_)
    clear hf
    have ka := chg_alloc (fun _ => False) w (.cells #[.int .i64 (n : Int), .slice a L.length c] 142)
    have O1 := Lib.hid (obj_alloc_new w (.cells #[.int .i64 (n : Int), .slice a L.length c] 142))
    have hsz : w.heap.size < (w.alloc (.cells #[.int .i64 (n : Int), .slice a L.length c] 142)).heap.size := by rw [World.size_alloc]; omega
    have H2 := Lib.hid (H1.out.chg ka (fun e => e) (fun e => e) (fun _ _ e => e) (fun _ _ e => e))
    have K1 := Lib.hid ka
    have HW2 := Lib.hid (hW.chg ka (fun _ _ e => e))
    have HN := Lib.hid hn
    have ST := Lib.hid (stale_any (w.alloc (.cells #[.int .i64 (n : Int), .slice a L.length c] 142)) lk mS b ra R rc n G C a L c H2.out.own H2.out.rules HW2.out h16 hn hcap few.2)
    have ROW := Lib.hid (show staleB R n L = false → Row12 R b x L from fun q => hrow.keep few.1 q)
    have H16 := Lib.hid h16
    clear ka c2 hn hcap hW hrow h16 few
    go_wp2_with fail
    generalize w.alloc (.cells #[.int .i64 (n : Int), .slice a L.length c] 142) = w0 at *
    unfold StaleRes at ST
    generalize staleB R n L = sb at *
    (with_reducible refine (ST.out).mono ?_)
    rintro e w1 ⟨rfl, ks⟩
    have H3 := Lib.hid (H2.out.chg ks (fun e => e) (fun e => e) (fun _ _ e => e) (fun _ _ e => e))
    have O2 := Lib.hid (ks.obj (fun e => e) O1.out)
    have K2 := Lib.hid (K1.out.trans ks)
    have HW3 := Lib.hid (HW2.out.chg ks (fun _ _ e => e))
    have hsz2 := Nat.lt_of_lt_of_le hsz ks.size
    clear ks ST O1 K1 HW2 H2 hsz
    have O1 := O2
    have H2 := H3
    have K1 := K2
    have hsz := hsz2
    clear O2 H3 K2 hsz2
    cases sb with
    | true =>
      clear ROW HN HW3 H16
      have e0 := cell_of (o := 0) H2.out.own rfl
      have e1 := cell_of (o := 1) H2.out.own rfl
      go_wp2_with fail
      have u0 : w1.drew.cell? ⟨lk, 0, none⟩ = some (.slice ra R.length rc) := e0
      have u1 : w1.drew.cell? ⟨lk, 1, none⟩ = some (.int .i64 b) := e1
      refine wp_region_plan (N := 58) [.rd [0, 1, 2, 3, 4, 5, 6, 7, 8], .ef 9, .rd [10, 11, 12, 13, 14]] (fun w' => w'.cell? ⟨lk, 0, none⟩ = some (.slice ra R.length rc) ∧ w'.cell? ⟨lk, 1, none⟩ = some (.int .i64 b)) (by kernel_rfl) (by kernel_rfl) (by kernel_rfl) (by kernel_rfl) (Nat.le_of_ble_eq_true rfl) ⟨e0, e1⟩ ?_
      refine plan_rd (A := ?PAy) ?phay ?phby
      case phay =>
        rintro w' ⟨q0, q1⟩ K hK
        simp only [opsAt, List.filterMap_cons, List.filterMap_nil, List.getElem?_toArray, List.getElem?_cons_succ, List.getElem?_cons_zero]
        repeat still_step
        refine wpStill_nil ?_
        exact hK
      clear u0 u1 e0 e1
      have kd := chg_drew (fun _ => False) w1
      have H3 := Lib.hid (H2.out.chg kd (fun e => e) (fun e => e) (fun _ _ e => e) (fun _ _ e => e))
      have K3 := Lib.hid (K1.out.trans kd)
      have O3 := Lib.hid (kd.obj (fun e => e) O1.out)
      have hsz3 := Nat.lt_of_lt_of_le hsz kd.size
      have AS := Lib.hid (H3.out.ask BS.out.2.2.2.2.2.2 (Chg.refl _ _))
      clear kd H2 K1 O1 hsz
      generalize w1.drew = w3 at *
      by_cases hr : rowErr R x b = 0
      rotate_left
      · have g : (rowErr R x b != 0) = true := by rw [bne_iff_ne]; exact hr
        have AL := Lib.hid (all_err AS.out rfl hr)
        have HR := Lib.hid hr
        clear hr AS
        refine plan_ef rfl ?_
        go_wp2_with fail
        (with_reducible refine (AL.out).mono ?_)
        rintro e w4 ⟨rfl, k4⟩
        have H4 := Lib.hid (H3.out.chg k4 (fun e => e) (fun e => e) (fun _ _ e => e) (fun _ _ e => e))
        have K4 := Lib.hid ((K3.out.trans k4).mono (T := (· = mS)) (fun _ _ e => e.elim))
        clear k4 H3 K3 O3 hsz3 AL
        go_wp2_with fail
        refine ⟨⟨cell_of (o := 0) H4.out.own rfl, cell_of (o := 1) H4.out.own rfl⟩, ?_⟩
        refine plan_rd (A := ?PBy) ?phcy ?phdy
        case phcy =>
          intro w' hS K hK
          clear hS
          simp only [opsAt, List.filterMap_cons, List.filterMap_nil, List.getElem?_toArray, List.getElem?_cons_succ, List.getElem?_cons_zero]
          repeat still_step
          refine wpStill_nil ?_
          exact hK
        refine plan_nil ?_
        go_wp2
        go_ret2
        exact ⟨B, ⟨fS, nS, C, H4.out, Nat.le_succ_of_le BS.out.2.2.2.2.1, BS.out.1, BS.out.2.1, BS.out.2.2.1, fun k hk => Nat.lt_of_lt_of_le (BS.out.2.2.2.1 k hk) K4.out.size⟩, K4.out, fun k hk => .inl hk, .inr ⟨HR.out, rfl⟩⟩
      obtain ⟨_, rr, hrr⟩ := rowErr_zero hr
      have AL := Lib.hid (all_ok AS.out hr hrr)
      have RS := Lib.hid (row_sizes hr hrr)
      have RT := Lib.hid (show Row12 R b x ((wordsR rr).map bar) by
        have := row12_tell hr
        unfold tellL rowD at this
        rw [if_pos hr, hrr] at this
        exact this)
      clear hr hrr AS
      refine plan_ef rfl ?_
      go_wp2_with fail
      (with_reducible refine (AL.out).mono ?_)
      rintro e w4 ⟨va, rfl, ho, k4⟩
      have HT0 := Lib.hid (fun k hk => own_cells ho (k := k) hk)
      have HG0 := Lib.hid (fun k (hk : va.ownBlock = some k) => (ho.lt k hk).1)
      have HW0 := Lib.hid (setAt_rw ho (fun u hu => Nat.le_trans (RS.out.1 u hu).2 (by decide)))
      clear ho
      obtain ⟨L, HL⟩ : ∃ L, Hid (L = (wordsR rr).map bar) := ⟨_, Lib.hid rfl⟩
      have H16 := Lib.hid (show ∀ y ∈ L, y.size ≤ 16 from fun y hy => by
        rw [HL.out] at hy
        obtain ⟨u, hu, rfl⟩ := List.mem_map.1 hy
        exact (RS.out.1 u hu).2)
      rw [← HL.out] at HW0 RT
      obtain ⟨a, c, hva⟩ := HW0.out.shape
      subst hva
      have HW4 := Lib.hid (HW0.out.at_.up (G' := fun k => C k ∨ (Value.slice a L.length c).ownBlock = some k) (fun k hk => .inr hk))
      have RW := RT
      have H4 := Lib.hid (H3.out.chg k4 (fun e => e) (fun e => e) (fun _ _ e => e) (fun _ _ e => e))
      have O4 := Lib.hid (k4.obj (fun e => e) O3.out)
      have HT := Lib.hid (show ∀ k, (C k ∨ (Value.slice a L.length c).ownBlock = some k) → ∃ cs, w4.heap[k]? = some (.cells cs 23 (0, 0)) from fun k hk => by
        rcases hk with q | q
        · exact H4.out.typ k q
        · exact HT0.out k q)
      have HCC := Lib.hid (show ∀ k, C k → (C k ∨ (Value.slice a L.length c).ownBlock = some k) from fun k hk => .inl hk)
      have BN := Lib.hid (show ∀ k, (C k ∨ (Value.slice a L.length c).ownBlock = some k) → B k ∨ w.heap.size ≤ k from fun k hk => by
        rcases hk with q | q
        · exact .inl (BS.out.1 k q)
        · exact .inr (Nat.le_trans (Nat.le_of_lt hsz3) (HG0.out k q)))
      have hsz4 := Nat.lt_of_lt_of_le hsz3 k4.size
      have K4 := Lib.hid (K3.out.trans k4)
      have hll : L.length ≤ maxLen := by obtain ⟨_, _, _, q, _⟩ := HW4.out; exact q
      unfold maxLen at hll
      have HG1 := Lib.hid (fun k (hk : (Value.slice a L.length c).ownBlock = some k) => Nat.lt_of_lt_of_le hsz3 (HG0.out k hk))
      clear k4 H3 K3 O3 hsz3 AL HW0 HT0 HG0 RS RT
      go_wp2_with fail
      refine ⟨⟨cell_of (o := 0) H4.out.own rfl, cell_of (o := 1) H4.out.own rfl⟩, ?_⟩
      refine plan_rd (A := ?PCy) ?phey ?phfy
      case phey =>
        intro w' hS K hK
        clear hS
        simp only [opsAt, List.filterMap_cons, List.filterMap_nil, List.getElem?_toArray, List.getElem?_cons_succ, List.getElem?_cons_zero]
        repeat still_step
        refine wpStill_nil ?_
        exact hK
      refine plan_nil ?_
      have t0 := cell_of (o := 0) O4.out rfl
      have t1 := cell_of (o := 1) O4.out rfl
      have f0 := frozen_of (o := 0) O4.out
      have f1 := frozen_of (o := 1) O4.out
      have e0 := cell_of (o := 0) H4.out.own rfl
      have e2 := cell_of (o := 2) H4.out.own rfl
      have hne : ¬ lk = w.heap.size := fun e => by have := NE.out.2.2.2.1; omega
      have hne2 : ¬ mS = w.heap.size := fun e => by have := NE.out.2.2.2.2; omega
      have NCC := Lib.hid (show ∀ k, (fun k => C k ∨ (Value.slice a L.length c).ownBlock = some k) k → ¬ k = w.heap.size from fun k hk e => by
        rcases hk with q | q
        · have := NE.out.2.2.1 k q; omega
        · have := HG1.out k q; omega)
      have kc : Chg (· = w.heap.size) w4 ((w4.setCell ⟨w.heap.size, 1, none⟩ (.slice a L.length c)).setCell ⟨w.heap.size, 0, none⟩ (.int .i64 (R.length : Int))) := ((chg_cell w4 w.heap.size 1 (.slice a L.length c)).trans (chg_cell _ w.heap.size 0 (.int .i64 (R.length : Int))))
      have OB : ((w4.setCell ⟨w.heap.size, 1, none⟩ (.slice a L.length c)).setCell ⟨w.heap.size, 0, none⟩ (.int .i64 (R.length : Int))).heap[w.heap.size]? = some (.cells #[.int .i64 (R.length : Int), .slice a L.length c] 142 (0, 0)) := by
        have := obj_setCell (o := 0) (obj_setCell (o := 1) O4.out (.slice a L.length c)) (.int .i64 (R.length : Int))
        simpa using this
      have H5 := Lib.hid (H4.out.chg kc hne hne2 (fun k hk => fun e => by have := NE.out.2.2.1 k hk; omega) (fun k hk e => by have := (H1.out.gb k hk).1; omega))
      have HW5 := Lib.hid (HW4.out.chg kc NCC.out)
      have HT5 := Lib.hid (show ∀ k, (fun k => C k ∨ (Value.slice a L.length c).ownBlock = some k) k → ∃ cs, (((w4.setCell ⟨w.heap.size, 1, none⟩ (.slice a L.length c)).setCell ⟨w.heap.size, 0, none⟩ (.int .i64 (R.length : Int)))).heap[k]? = some (.cells cs 23 (0, 0)) from fun k hk => by
        obtain ⟨cs, q⟩ := HT.out k hk
        exact ⟨cs, kc.obj (NCC.out k hk) q⟩)
      have O5 := Lib.hid OB
      have K5 := Lib.hid (K4.out.next kc (fun k hk e => by omega))
      have hsz5 := Nat.lt_of_lt_of_le hsz4 kc.size
      have hgm := Lib.hid hne2
      clear kc OB hne2
      go_wp2_with fail
      clear t0 t1 f0 f1 e0 e2 H4 HW4 O4 K4 HT hsz4 hne
      generalize ((w4.setCell ⟨w.heap.size, 1, none⟩ (.slice a L.length c)).setCell ⟨w.heap.size, 0, none⟩ (.int .i64 (R.length : Int))) = w5 at *
      have kd := chg_drew (fun _ => False) w5
      have H6 := Lib.hid (H5.out.chg kd (fun e => e) (fun e => e) (fun _ _ e => e) (fun _ _ e => e))
      have HW6 := Lib.hid (HW5.out.chg kd (fun _ _ e => e))
      have HT6 := Lib.hid (show ∀ k, (fun k => C k ∨ (Value.slice a L.length c).ownBlock = some k) k → ∃ cs, w5.drew.heap[k]? = some (.cells cs 23 (0, 0)) from fun k hk => HT5.out k hk)
      have O6 := Lib.hid (kd.obj (fun e => e) O5.out)
      have K6 := Lib.hid (K5.out.trans kd)
      clear kd H5 HW5 HT5 O5 K5
      have e0 : w5.drew.cell? ⟨lk, 2, none⟩ = some (.map (some mS)) := cell_of (o := 2) H6.out.own rfl
      have b0 : w5.drew.cell? ⟨w.heap.size, 0, none⟩ = some (.int .i64 (R.length : Int)) := cell_of (o := 0) O6.out rfl
      have b1 : w5.drew.cell? ⟨w.heap.size, 1, none⟩ = some (.slice a L.length c) := cell_of (o := 1) O6.out rfl
      refine wp_still_tail_drew 6 (by kernel_rfl) (by kernel_rfl) ?_
      simp only [List.take_succ_cons, List.take_zero, List.drop_succ_cons, List.drop_zero]
      repeat still_step
      refine wpStill_nil ?_
      clear e0 b0 b1
      generalize w5.drew = w6 at *
      refine wpList_putV rfl (.tmp 53) (.tmp 54) (.tmp 55) 98 rfl 23 142 Tryz.wordKeyed Tryz.underlying98 mS nS fS rfl H6.out.map ?pa2 (.string x) (.agg #[.int .i64 (R.length : Int), .slice a L.length c]) (.string x.data.toList) rfl rfl KEY.out ?pb2
      case pa2 =>
        have := BS.out.2.2.2.2.1
        have := BS.out.2.2.2.2.2.1
        unfold maxLen
        omega
      intro w7 n7 hm7 _ _ hn7 k7
      have MNC := Lib.hid (show ∀ k, (fun k => C k ∨ (Value.slice a L.length c).ownBlock = some k) k → k ≠ mS from fun k hk => by
        obtain ⟨cs, q⟩ := HT6.out k hk
        exact H6.out.map.ne_cells q)
      have HW7 := Lib.hid (HW6.out.chg k7 MNC.out)
      have HT7 := Lib.hid (show ∀ k, (fun k => C k ∨ (Value.slice a L.length c).ownBlock = some k) k → ∃ cs, w7.heap[k]? = some (.cells cs 23 (0, 0)) from fun k hk => by
        obtain ⟨cs, q⟩ := HT6.out k hk
        exact ⟨cs, k7.obj (MNC.out k hk) q⟩)
      have H7 := Lib.hid (H6.out.more k7 hm7 HCC.out HW7.out RW.out H16.out HT7.out)
      have K7 := Lib.hid ((K6.out.mono (T := (· = mS)) (fun _ _ e => e.elim)).trans k7)
      have l1 := cell_of (o := 1) (k7.obj (fun e => hgm.out e.symm) O6.out) rfl
      have hnn : n7 ≤ N + 1 := by have := BS.out.2.2.2.2.1; omega
      clear hm7 hn7 k7 H6 HW6 HT6 O6 K6
      go_wp2
      go_ret2
      refine ⟨fun k => B k ∨ (fun k => C k ∨ (Value.slice a L.length c).ownBlock = some k) k, ⟨_, n7, _, H7.out, hnn, fun k hk => .inr hk, .inl BS.out.2.1, .inl BS.out.2.2.1, fun k hk => ?_⟩, K7.out, fun k hk => ?_, .inl ⟨a, L, c, rfl, HW7.out.up (fun _ _ => trivial), RW.out⟩⟩
      · rcases hk with q | q
        · exact Nat.lt_of_lt_of_le (BS.out.2.2.2.1 k q) K7.out.size
        · obtain ⟨cs, z⟩ := HT7.out k q
          exact lt_of_obj z
      · rcases hk with q | q
        · exact .inl q
        · exact BN.out k q
    | false =>
      have RW := Lib.hid (ROW.out rfl)
      have HT := Lib.hid (H2.out.typ)
      have HCC := Lib.hid (show ∀ k, C k → C k from fun k hk => hk)
      clear ROW HN
      have H4 := H2
      have HW4 := HW3
      have K4 := K1
      have O4 := O1
      have hsz4 := hsz
      have BN := Lib.hid (show ∀ k, C k → B k ∨ w.heap.size ≤ k from fun k hk => .inl (BS.out.1 k hk))
      clear H2 HW3 K1 O1 hsz
      generalize hw4 : w1 = w4 at *
      clear hw4
      have t0 := cell_of (o := 0) O4.out rfl
      have t1 := cell_of (o := 1) O4.out rfl
      have f0 := frozen_of (o := 0) O4.out
      have f1 := frozen_of (o := 1) O4.out
      have e0 := cell_of (o := 0) H4.out.own rfl
      have e2 := cell_of (o := 2) H4.out.own rfl
      have hne : ¬ lk = w.heap.size := fun e => by have := NE.out.2.2.2.1; omega
      have hne2 : ¬ mS = w.heap.size := fun e => by have := NE.out.2.2.2.2; omega
      have NCC := Lib.hid (show ∀ k, (C) k → ¬ k = w.heap.size from fun k hk e => by have := NE.out.2.2.1 k hk; omega)
      have kc : Chg (· = w.heap.size) w4 (w4.setCell ⟨w.heap.size, 0, none⟩ (.int .i64 (R.length : Int))) := (chg_cell w4 w.heap.size 0 (.int .i64 (R.length : Int)))
      have OB : (w4.setCell ⟨w.heap.size, 0, none⟩ (.int .i64 (R.length : Int))).heap[w.heap.size]? = some (.cells #[.int .i64 (R.length : Int), .slice a L.length c] 142 (0, 0)) := by
        have := obj_setCell (o := 0) O4.out (.int .i64 (R.length : Int))
        simpa using this
      have H5 := Lib.hid (H4.out.chg kc hne hne2 (fun k hk => fun e => by have := NE.out.2.2.1 k hk; omega) (fun k hk e => by have := (H1.out.gb k hk).1; omega))
      have HW5 := Lib.hid (HW4.out.chg kc NCC.out)
      have HT5 := Lib.hid (show ∀ k, (C) k → ∃ cs, ((w4.setCell ⟨w.heap.size, 0, none⟩ (.int .i64 (R.length : Int)))).heap[k]? = some (.cells cs 23 (0, 0)) from fun k hk => by
        obtain ⟨cs, q⟩ := HT.out k hk
        exact ⟨cs, kc.obj (NCC.out k hk) q⟩)
      have O5 := Lib.hid OB
      have K5 := Lib.hid (K4.out.next kc (fun k hk e => by omega))
      have hsz5 := Nat.lt_of_lt_of_le hsz4 kc.size
      have hgm := Lib.hid hne2
      clear kc OB hne2
      go_wp2_with fail
      clear t0 t1 f0 f1 e0 e2 H4 HW4 O4 K4 HT hsz4 hne
      generalize (w4.setCell ⟨w.heap.size, 0, none⟩ (.int .i64 (R.length : Int))) = w5 at *
      have kd := chg_drew (fun _ => False) w5
      have H6 := Lib.hid (H5.out.chg kd (fun e => e) (fun e => e) (fun _ _ e => e) (fun _ _ e => e))
      have HW6 := Lib.hid (HW5.out.chg kd (fun _ _ e => e))
      have HT6 := Lib.hid (show ∀ k, (C) k → ∃ cs, w5.drew.heap[k]? = some (.cells cs 23 (0, 0)) from fun k hk => HT5.out k hk)
      have O6 := Lib.hid (kd.obj (fun e => e) O5.out)
      have K6 := Lib.hid (K5.out.trans kd)
      clear kd H5 HW5 HT5 O5 K5
      have e0 : w5.drew.cell? ⟨lk, 2, none⟩ = some (.map (some mS)) := cell_of (o := 2) H6.out.own rfl
      have b0 : w5.drew.cell? ⟨w.heap.size, 0, none⟩ = some (.int .i64 (R.length : Int)) := cell_of (o := 0) O6.out rfl
      have b1 : w5.drew.cell? ⟨w.heap.size, 1, none⟩ = some (.slice a L.length c) := cell_of (o := 1) O6.out rfl
      refine wp_still_tail_drew 6 (by kernel_rfl) (by kernel_rfl) ?_
      simp only [List.take_succ_cons, List.take_zero, List.drop_succ_cons, List.drop_zero]
      repeat still_step
      refine wpStill_nil ?_
      clear e0 b0 b1
      generalize w5.drew = w6 at *
      refine wpList_putV rfl (.tmp 53) (.tmp 54) (.tmp 55) 98 rfl 23 142 Tryz.wordKeyed Tryz.underlying98 mS nS fS rfl H6.out.map ?pa3 (.string x) (.agg #[.int .i64 (R.length : Int), .slice a L.length c]) (.string x.data.toList) rfl rfl KEY.out ?pb3
      case pa3 =>
        have := BS.out.2.2.2.2.1
        have := BS.out.2.2.2.2.2.1
        unfold maxLen
        omega
      intro w7 n7 hm7 _ _ hn7 k7
      have MNC := Lib.hid (show ∀ k, (C) k → k ≠ mS from fun k hk => by
        obtain ⟨cs, q⟩ := HT6.out k hk
        exact H6.out.map.ne_cells q)
      have HW7 := Lib.hid (HW6.out.chg k7 MNC.out)
      have HT7 := Lib.hid (show ∀ k, (C) k → ∃ cs, w7.heap[k]? = some (.cells cs 23 (0, 0)) from fun k hk => by
        obtain ⟨cs, q⟩ := HT6.out k hk
        exact ⟨cs, k7.obj (MNC.out k hk) q⟩)
      have H7 := Lib.hid (H6.out.more k7 hm7 HCC.out HW7.out RW.out H16.out HT7.out)
      have K7 := Lib.hid ((K6.out.mono (T := (· = mS)) (fun _ _ e => e.elim)).trans k7)
      have l1 := cell_of (o := 1) (k7.obj (fun e => hgm.out e.symm) O6.out) rfl
      have hnn : n7 ≤ N + 1 := by have := BS.out.2.2.2.2.1; omega
      clear hm7 hn7 k7 H6 HW6 HT6 O6 K6
      go_wp2
      go_ret2
      refine ⟨fun k => B k ∨ (C) k, ⟨_, n7, _, H7.out, hnn, fun k hk => .inr hk, .inl BS.out.2.1, .inl BS.out.2.2.1, fun k hk => ?_⟩, K7.out, fun k hk => ?_, .inl ⟨a, L, c, rfl, HW7.out.up (fun _ _ => trivial), RW.out⟩⟩
      · rcases hk with q | q
        · exact Nat.lt_of_lt_of_le (BS.out.2.2.2.1 k q) K7.out.size
        · obtain ⟨cs, z⟩ := HT7.out k q
          exact lt_of_obj z
      · rcases hk with q | q
        · exact .inl q
        · exact BN.out k q
end Go.Proofs.YtdgmjablkdemmaaGreat
