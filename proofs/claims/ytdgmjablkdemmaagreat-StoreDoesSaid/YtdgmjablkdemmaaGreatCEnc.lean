/-
  Package pack: Out: numbers, words, sets, what was written; in plain Lean, and walked.
  Package pack: Set, Done; package cert: Encode.
  Package cert: Encode.
-/
import Derived.Test.YtdgmjablkdemmaaGreatCCheck
namespace Go.Proofs.YtdgmjablkdemmaaGreat
open Go.RowKit Go.Maps

/-! plain -/
def numE (n : Nat) : List UInt8 := if n < 128 then [UInt8.ofNat n] else UInt8.ofNat (n % 128 + 128) :: numE (n / 128)
termination_by n
decreasing_by omega
theorem numE_small {n : Nat} (h : n < 128) : numE n = [UInt8.ofNat n] := by rw [numE, if_pos h]
theorem numE_big {n : Nat} (h : 128 ≤ n) : numE n = UInt8.ofNat (n % 128 + 128) :: numE (n / 128) := by rw [numE, if_neg (by omega)]
theorem numE_inj : ∀ (n m : Nat) (x y : List UInt8), numE n ++ x = numE m ++ y → n = m ∧ x = y := by
  intro n
  induction n using Nat.strongRecOn with
  | _ n ih =>
    intro m x y h
    rcases Nat.lt_or_ge n 128 with hn | hn <;> rcases Nat.lt_or_ge m 128 with hm | hm
    · rw [numE_small hn, numE_small hm] at h
      simp only [List.cons_append, List.nil_append, List.cons.injEq] at h
      have := congrArg UInt8.toNat h.1
      rw [UInt8.toNat_ofNat', UInt8.toNat_ofNat'] at this
      exact ⟨by omega, h.2⟩
    · rw [numE_small hn, numE_big hm] at h
      simp only [List.cons_append, List.nil_append, List.cons.injEq] at h
      have := congrArg UInt8.toNat h.1
      rw [UInt8.toNat_ofNat', UInt8.toNat_ofNat'] at this
      omega
    · rw [numE_big hn, numE_small hm] at h
      simp only [List.cons_append, List.nil_append, List.cons.injEq] at h
      have := congrArg UInt8.toNat h.1
      rw [UInt8.toNat_ofNat', UInt8.toNat_ofNat'] at this
      omega
    · rw [numE_big hn, numE_big hm] at h
      simp only [List.cons_append, List.cons.injEq] at h
      have e1 := congrArg UInt8.toNat h.1
      rw [UInt8.toNat_ofNat', UInt8.toNat_ofNat'] at e1
      obtain ⟨e2, e3⟩ := ih (n / 128) (by omega) (m / 128) x y h.2
      exact ⟨by omega, e3⟩
theorem numE_len : ∀ (k n : Nat), n < 128 ^ (k + 1) → (numE n).length ≤ k + 1
  | 0, n, h => by rw [numE_small (by simpa using h)]; simp
  | k + 1, n, h => by
    rcases Nat.lt_or_ge n 128 with q | q
    · rw [numE_small q]; simp
    · rw [numE_big q, List.length_cons]
      have := numE_len k (n / 128) (by rw [Nat.div_lt_iff_lt_mul (by omega)]; rwa [Nat.pow_succ] at h)
      omega
def wordE (s : ByteArray) : List UInt8 := UInt8.ofNat (alen s.data.toList) :: s.data.toList
def wordsE (l : List ByteArray) : List UInt8 := l.flatMap wordE
def setE (l : List ByteArray) : List UInt8 := UInt8.ofNat l.length :: wordsE l
theorem may_len {s : ByteArray} (h : mayB s.data.toList = true) : s.data.toList.length = 2 * alen s.data.toList ∧ alen s.data.toList ≤ 8 := by
  obtain ⟨h1, _, h3, _⟩ := (mayB_iff _).1 h
  unfold alen at *
  exact ⟨by omega, h3⟩
theorem wordE_inj {s t : ByteArray} {x y : List UInt8} (hs : mayB s.data.toList = true) (ht : mayB t.data.toList = true) (h : wordE s ++ x = wordE t ++ y) : s = t ∧ x = y := by
  obtain ⟨a1, a2⟩ := may_len hs
  obtain ⟨b1, b2⟩ := may_len ht
  unfold wordE at h
  simp only [List.cons_append, List.cons.injEq] at h
  have := congrArg UInt8.toNat h.1
  rw [UInt8.toNat_ofNat', UInt8.toNat_ofNat'] at this
  obtain ⟨e1, e2⟩ := List.append_inj h.2 (by omega)
  exact ⟨bytes_ext e1, e2⟩
theorem wordsE_inj : ∀ (l m : List ByteArray) (x y : List UInt8), (∀ s ∈ l, mayB s.data.toList = true) → (∀ s ∈ m, mayB s.data.toList = true) → l.length = m.length → wordsE l ++ x = wordsE m ++ y → l = m ∧ x = y
  | [], [], x, y, _, _, _, h => ⟨rfl, by simpa [wordsE] using h⟩
  | [], b :: m, x, y, _, _, hl, _ => by simp at hl
  | a :: l, [], x, y, _, _, hl, _ => by simp at hl
  | a :: l, b :: m, x, y, ha, hb, hl, h => by
    unfold wordsE at h
    rw [List.flatMap_cons, List.flatMap_cons, List.append_assoc, List.append_assoc] at h
    obtain ⟨e1, e2⟩ := wordE_inj (ha a List.mem_cons_self) (hb b List.mem_cons_self) h
    obtain ⟨e3, e4⟩ := wordsE_inj l m x y (fun s hs => ha s (List.mem_cons_of_mem _ hs)) (fun s hs => hb s (List.mem_cons_of_mem _ hs)) (by simpa using hl) e2
    exact ⟨by rw [e1, e3], e4⟩
theorem setE_inj {l m : List ByteArray} {x y : List UInt8} (hl : setB l = true) (hm : setB m = true) (h : setE l ++ x = setE m ++ y) : l = m ∧ x = y := by
  have l16 : l.length ≤ 16 := by
    obtain ⟨_, q, _⟩ := of_decide_eq_true hl
    rwa [lists_len] at q
  have m16 : m.length ≤ 16 := by
    obtain ⟨_, q, _⟩ := of_decide_eq_true hm
    rwa [lists_len] at q
  unfold setE at h
  simp only [List.cons_append, List.cons.injEq] at h
  have := congrArg UInt8.toNat h.1
  rw [UInt8.toNat_ofNat', UInt8.toNat_ofNat'] at this
  exact wordsE_inj l m x y (fun s hs => setB_mayC hl hs) (fun s hs => setB_mayC hm hs) (by omega) h.2
/-- A certificate's bytes. -/
def certE (c : BCert) : List UInt8 := numE c.kind.toNat ++ (numE c.sg ++ (wordE c.sp ++ (setE c.fr ++ (numE c.f.toNat ++ (numE (c.t - c.f).toNat ++ numE c.n.toNat)))))
theorem certE_inj {c d : BCert} (hc : certB c = true) (hd : certB d = true) (h : certE c = certE d) : c = d := by
  have C := certB_may hc
  have D := certB_may hd
  unfold certE at h
  obtain ⟨e1, h⟩ := numE_inj _ _ _ _ h
  obtain ⟨e2, h⟩ := numE_inj _ _ _ _ h
  obtain ⟨e3, h⟩ := wordE_inj C.sp D.sp h
  obtain ⟨e4, h⟩ := setE_inj C.fr D.fr h
  obtain ⟨e5, h⟩ := numE_inj _ _ _ _ h
  obtain ⟨e6, h⟩ := numE_inj _ _ _ _ h
  obtain ⟨e7, _⟩ := numE_inj _ _ [] [] (by simpa using h)
  have := C.k1
  have := D.k1
  have := C.f0
  have := D.f0
  have := C.ft
  have := D.ft
  have := C.n0
  have := D.n0
  obtain ⟨k, s, p, r, f, t, n⟩ := c
  obtain ⟨k', s', p', r', f', t', n'⟩ := d
  simp only at *
  have a1 : k = k' := by omega
  have a2 : f = f' := by omega
  have a3 : t = t' := by omega
  have a4 : n = n' := by omega
  rw [a1, a2, a3, a4, e2, e3, e4]
theorem or_u8 : ∀ x : Fin 256, bits BinOp.or IntKind.u8 ((x.val : Nat) : Int) 128 = ((x.val % 128 + 128 : Nat) : Int) := by decide +kernel
/-! the writer, in memory -/
structure OutAt (w : World) (base b : Nat) (s : List UInt8) : Prop where
  row : ∃ v, w.heap[b]? = some (.cells #[.int .i64 0, v] 111 (0, 0)) ∧ w.ownsRow base 5 1 v s.length (bcells s)
  base : base ≤ b
theorem OutAt.chg {S : Nat → Prop} {w w' : World} {base b : Nat} {s : List UInt8} (h : OutAt w base b s) (hc : Chg S w w') (hs : ∀ k, base ≤ k → ¬ S k) : OutAt w' base b s := by
  obtain ⟨v, h1, h2⟩ := h.row
  exact ⟨⟨v, hc.obj (hs b h.base) h1, own_chg h2 hc (fun k hk => hs k (h2.lt k hk).1)⟩, h.base⟩
theorem well_any (w : World) (b : Nat) (v : Value) (h : w.heap[b]? = some (.cells #[.int .i64 0, v] 111 (0, 0))) : Calls Tryz.prog 87 #[.pointer (some ⟨b, 0, none⟩)] w fun e w' => e = .returned (.bool true) ∧ w = w' := by
  have c0 := cell_of (o := 0) h rfl
  clear h
  go_enter Tryz.func87, Tryz.ntmps87
  go_wp2
  go_ret
  exact ⟨rfl, rfl⟩
theorem or_byte {m : Nat} : bits BinOp.or IntKind.u8 ((m : Int) % 256) 128 = ((m % 128 + 128 : Nat) : Int) := by
  have := or_u8 ⟨m % 256, Nat.mod_lt _ (by omega)⟩
  simp only at this
  rw [show ((m % 256 : Nat) : Int) = (m : Int) % 256 from by omega] at this
  rw [this]
  congr 1
  omega
/-- What lies behind an append and its store. -/
theorem out_put {w w5 : World} {base b : Nat} {s t : List UInt8} {v v5 : Value} (hb : base ≤ b) (h : w.heap[b]? = some (.cells #[.int .i64 0, v] 111 (0, 0))) (ho : w.ownsRow base 5 1 v s.length (bcells s)) (ho5 : w5.ownsRow base 5 1 v5 t.length (bcells t)) (hg : Chg (fun k => v.ownBlock = some k) w w5) :
    w5.heap[b]? = some (.cells #[.int .i64 0, v] 111 (0, 0)) ∧ OutAt (w5.setCell ⟨b, 1, none⟩ v5) base b t ∧ Chg (fun k => base ≤ k) w (w5.setCell ⟨b, 1, none⟩ v5) := by
  have hne : v.ownBlock ≠ some b := fun e => by
    obtain ⟨cs, hcs⟩ := own_cells ho e
    rw [h] at hcs; cases hcs
  have h5 := hg.obj hne h
  have hne5 : v5.ownBlock ≠ some b := fun e => by
    obtain ⟨cs, hcs⟩ := own_cells ho5 e
    rw [h5] at hcs; cases hcs
  have kc := chg_cell w5 b 1 v5
  refine ⟨h5, ⟨⟨v5, obj_setCell (o := 1) h5 v5, own_chg ho5 kc (fun k hk e => hne5 (by rw [← e]; exact hk))⟩, hb⟩, (hg.mono (fun k _ e => (ho.lt k e).1)).trans (kc.mono (fun k _ e => by rw [e]; exact hb))⟩
set_option maxHeartbeats 2000000 in
set_option maxRecDepth 100000 in
theorem onum_any (w : World) (base b : Nat) (s : List UInt8) (n : Nat) (h : OutAt w base b s) (hn : n ≤ 4611686018427387904) (hs : s.length ≤ 100000) :
    Calls Tryz.prog 61 #[.pointer (some ⟨b, 0, none⟩), .int .i64 ((n : Nat) : Int)] w fun e w' => e = .returned (.tuple #[]) ∧ OutAt w' base b (s ++ numE n) ∧ Chg (fun k => base ≤ k) w w' := by
  have H := Lib.hid h
  have hnl : (numE n).length ≤ 9 := numE_len 8 n (by omega)
  obtain ⟨v0, h1, _⟩ := h.row
  have WE := Lib.hid (well_any w b v0 h1)
  have hbw := lt_of_obj h1
  have g1 : decide ((n : Int) < 0) = false := decide_eq_false (by omega)
  have g2 : decide (4611686018427387904 < (n : Int)) = false := decide_eq_false (by omega)
  clear h h1
  go_enter Tryz.func61, Tryz.ntmps61
  go_wp2_with fail
  (with_reducible refine (WE.out).mono ?_)
  rintro e w1 ⟨rfl, rfl⟩
  clear WE
  go_wp2
  go_loopw [1] (fun nv wr => ∃ (m : Nat) (s' : List UInt8), nv = .int .i64 ((m : Nat) : Int) ∧ m ≤ 4611686018427387904 ∧ Hid (OutAt wr base b s' ∧ s' ++ numE m = s ++ numE n ∧ Chg (fun k => base ≤ k) w wr)) (fun nv _ => (intOf nv).toNat)
  case atStart => exact ⟨n, s, rfl, hn, Lib.hid ⟨H.out, rfl, Chg.refl _ _⟩⟩
  case round =>
    obtain ⟨m, s', rfl, hm, HI⟩ := hrel
    have hl : s'.length ≤ 100009 := by
      have := congrArg List.length HI.out.2.1
      rw [List.length_append, List.length_append] at this
      omega
    obtain ⟨v, h1, h2⟩ := HI.out.1.row
    have hbase := HI.out.1.base
    have EQ := Lib.hid HI.out.2.1
    have KC := Lib.hid HI.out.2.2
    have OB := Lib.hid h1
    have OR := Lib.hid h2
    obtain ⟨va, vc, rfl⟩ := own_shape h2
    have c1 := cell_of (o := 1) h1 rfl
    clear h1 h2 HI
    have hbr : base ≤ wr.heap.size := by have := lt_of_obj OB.out; omega
    by_cases hlt : 128 ≤ m
    · have g3 : decide (128 ≤ (m : Int)) = true := decide_eq_true (by omega)
      have g4 : decide ((m : Int) < 128) = false := decide_eq_false (by omega)
      have ob := or_byte (m := m)
      go_wp2_with (at_builtin; refine wpList_pushF rfl (.tmp 25) (.tmp 29) 107 rfl 5 1 1 Tryz.underlying107 Tryz.elemByte base _ s'.length (bcells s') rfl ?a1 wr.heap.size [.int .u8 ((m : Int) % 128 + 128)] 5 (0, 0) rfl ?a2 rfl ?a3 ?a4 ?a5 ?a6 ?a7)
      case a1 => exact own_chg OR.out (chg_alloc (fun _ => False) _ _) (fun _ _ e => e)
      case a2 => exact obj_alloc_new _ _
      case a3 => intro u hu; simp at hu; subst hu; rfl
      case a4 => omega
      case a5 => unfold maxLen; omega
      case a6 => simp; omega
      intro v5 w5 o5 g5 _
      obtain ⟨a5, c5, rfl⟩ := own_shape o5
      have ka := chg_alloc (fun k => base ≤ k) wr (.cells #[.int .u8 ((m : Int) % 128 + 128)] 5)
      have kf := chg_alloc (fun _ => False) wr (.cells #[.int .u8 ((m : Int) % 128 + 128)] 5)
      have o5b : w5.ownsRow base 5 1 (.slice a5 (s'.length + 1) c5) (s' ++ [UInt8.ofNat (m % 128 + 128)]).length (bcells (s' ++ [UInt8.ofNat (m % 128 + 128)])) := by
        have e : Value.int .u8 ((m : Int) % 128 + 128) = bcell (UInt8.ofNat (m % 128 + 128)) := byte_val _ _ (by omega) (by omega)
        rw [e] at o5
        unfold bcells at *
        rw [List.map_append, List.length_append]; exact o5
      obtain ⟨h5, r1, r2⟩ := out_put hbase (kf.obj (fun e => e) OB.out) (own_chg OR.out kf (fun _ _ e => e)) o5b (Chg.of_grown g5)
      have R1 := Lib.hid r1
      have R2 := Lib.hid (KC.out.trans (ka.trans r2))
      have q1 := cell_of (o := 1) h5 rfl
      have f1 := frozen_of (o := 1) h5
      have EQ2 := Lib.hid (show (s' ++ [UInt8.ofNat (m % 128 + 128)]) ++ numE (m / 128) = s ++ numE n from by
        rw [← EQ.out, numE_big hlt]; simp)
      clear h5 r1 r2 o5b o5 g5 ka kf OB OR KC EQ c1
      go_wp2
      go_roundw
      case rel => exact ⟨m / 128, _, by simp, by omega, Lib.hid ⟨R1.out, EQ2.out, R2.out⟩⟩
      case measure => simp [intOf]; omega
    · have g3 : decide (128 ≤ (m : Int)) = false := decide_eq_false (by omega)
      have g4 : decide ((m : Int) < 128) = true := decide_eq_true (by omega)
      go_wp2_with (at_builtin; refine wpList_pushF rfl (.tmp 39) (.tmp 42) 107 rfl 5 1 1 Tryz.underlying107 Tryz.elemByte base _ s'.length (bcells s') rfl ?b1 wr.heap.size [.int .u8 (m : Int)] 5 (0, 0) rfl ?b2 rfl ?b3 ?b4 ?b5 ?b6 ?b7)
      case b1 => exact own_chg OR.out (chg_alloc (fun _ => False) _ _) (fun _ _ e => e)
      case b2 => exact obj_alloc_new _ _
      case b3 => intro u hu; simp at hu; subst hu; rfl
      case b4 => omega
      case b5 => unfold maxLen; omega
      case b6 => simp; omega
      intro v5 w5 o5 g5 _
      obtain ⟨a5, c5, rfl⟩ := own_shape o5
      have ka := chg_alloc (fun k => base ≤ k) wr (.cells #[.int .u8 (m : Int)] 5)
      have kf := chg_alloc (fun _ => False) wr (.cells #[.int .u8 (m : Int)] 5)
      have o5b : w5.ownsRow base 5 1 (.slice a5 (s'.length + 1) c5) (s' ++ [UInt8.ofNat m]).length (bcells (s' ++ [UInt8.ofNat m])) := by
        have e : Value.int .u8 (m : Int) = bcell (UInt8.ofNat m) := byte_val _ _ (by omega) (by omega)
        rw [e] at o5
        unfold bcells at *
        rw [List.map_append, List.length_append]; exact o5
      obtain ⟨h5, r1, r2⟩ := out_put hbase (kf.obj (fun e => e) OB.out) (own_chg OR.out kf (fun _ _ e => e)) o5b (Chg.of_grown g5)
      have EQ2 : s' ++ [UInt8.ofNat m] = s ++ numE n := by rw [← EQ.out, numE_small (by omega)]
      rw [EQ2] at r1
      have R1 := Lib.hid r1
      have R2 := Lib.hid (KC.out.trans (ka.trans r2))
      have q1 := cell_of (o := 1) h5 rfl
      have f1 := frozen_of (o := 1) h5
      clear h5 r1 r2 o5b o5 g5 ka kf OB OR KC EQ c1 EQ2
      go_wp2
      go_end0
      exact ⟨rfl, R1.out, R2.out⟩
theorem Tryz.sizeBytes : (Tryz.prog.info? 107).map (·.size) = some 1 := by kernel_rfl
theorem Tryz.infoByte : (Tryz.prog.info? 5).map (fun i => (i.zero, i.size, i.bytes)) = some (some (.int .u8 0), 1, 1) := by kernel_rfl
/-- Bytes behind what was written. -/
theorem bcells_append (s t : List UInt8) : bcells (s ++ t) = bcells s ++ bcells t := by unfold bcells; rw [List.map_append]
set_option maxHeartbeats 2000000 in
set_option maxRecDepth 100000 in
theorem oword_any (w : World) (base b : Nat) (s : List UInt8) (x : ByteArray) (h : OutAt w base b s) (hx : mayB x.data.toList = true) (hs : s.length ≤ 100000) :
    Calls Tryz.prog 62 #[.pointer (some ⟨b, 0, none⟩), .string x] w fun e w' => e = .returned (.tuple #[]) ∧ OutAt w' base b (s ++ wordE x) ∧ Chg (fun k => base ≤ k) w w' := by
  have H := Lib.hid h
  have hxs := (may_size hx).1
  obtain ⟨_, _, hx8, _⟩ := (mayB_iff _).1 hx
  have hbase := h.base
  have MY := wmay_any w x (by unfold maxLen; omega)
  rw [hx] at MY
  have MY := Lib.hid MY
  have WL := Lib.hid (fun w => wlen_any w x (by unfold maxLen; omega))
  clear h
  go_enter Tryz.func62, Tryz.ntmps62
  go_wp2_with fail
  (with_reducible refine (MY.out).mono ?_)
  rintro e w1 ⟨rfl, k1⟩
  have H1 := Lib.hid (H.out.chg k1 (fun _ _ e => e))
  have K1 := Lib.hid (show Chg (fun k => base ≤ k) w w1 from k1.mono (fun _ _ e => e.elim))
  obtain ⟨v, h1, h2⟩ := H1.out.row
  have WE := Lib.hid (well_any w1 b v h1)
  have OB := Lib.hid h1
  have OR := Lib.hid h2
  obtain ⟨va, vc, rfl⟩ := own_shape h2
  have c1 := cell_of (o := 1) h1 rfl
  have hbr : base ≤ w1.heap.size := by have := lt_of_obj h1; omega
  clear h1 h2 k1 MY H H1
  go_wp2_with fail
  (with_reducible refine (WE.out).mono ?_)
  rintro e w2 ⟨rfl, rfl⟩
  clear WE
  go_wp2_with fail
  refine wp_region_planL (N := 36) [.rd [0, 1, 2, 3, 4, 5], .ef 6, .ef 7, .ef 8, .ef 9, .ef 10, .ef 11, .ef 12] 12 (fun W => W.cell? ⟨b, 1, none⟩ = some (.slice va s.length vc)) (by kernel_rfl) (by kernel_rfl) (by kernel_rfl) (by kernel_rfl) (by kernel_rfl) (Nat.le_of_ble_eq_true rfl) c1 ?_
  refine planL_rd (A := ?A1) ?h1 ?h2
  case h1 =>
    rintro w' z0 K hK
    simp only [opsAt, List.filterMap_cons, List.filterMap_nil, List.getElem?_toArray, List.getElem?_cons_succ, List.getElem?_cons_zero]
    repeat still_step
    refine wpStill_nil ?_
    exact hK
  have d0 : w1.drew.cell? ⟨b, 1, none⟩ = some (.slice va s.length vc) := c1
  have OBD := Lib.hid ((chg_drew (fun _ => False) w1).obj (fun e => e) OB.out)
  have ORD := Lib.hid (own_chg OR.out (chg_drew (fun _ => False) w1) (fun _ _ e => e))
  have KD := Lib.hid (K1.out.drew)
  have hbd : base ≤ w1.drew.heap.size := hbr
  clear c1 OB OR K1 hbr
  generalize w1.drew = wd at *
  have WL1 := Lib.hid (WL.out wd)
  refine planL_ef rfl ?_
  go_wp2_with fail
  (with_reducible refine (WL1.out).mono ?_)
  rintro e w2 ⟨rfl, rfl⟩
  go_wp2_with fail
  refine ⟨.inr d0, ?_⟩
  refine planL_ef rfl ?_
  go_wp2_with fail
  refine ⟨.inr d0, ?_⟩
  refine planL_ef rfl ?_
  go_wp2_with fail
  have kf := chg_alloc (fun _ => False) wd (.cells #[.int .u8 ((alen x.data.toList : Nat) : Int)] 5)
  have ka := chg_alloc (fun k => base ≤ k) wd (.cells #[.int .u8 ((alen x.data.toList : Nat) : Int)] 5)
  refine ⟨.inr (cell_chg kf (fun e => e) d0), ?_⟩
  refine planL_ef rfl ?_
  refine wpList_pushF rfl (.tmp 19) (.tmp 23) 107 rfl 5 1 1 Tryz.underlying107 Tryz.elemByte base _ s.length (bcells s) rfl (own_chg ORD.out kf (fun _ _ e => e)) wd.heap.size [.int .u8 ((alen x.data.toList : Nat) : Int)] 5 (0, 0) rfl (obj_alloc_new _ _) rfl (by intro u hu; simp at hu; subst hu; rfl) (by omega) (by unfold maxLen; omega) (by simp; omega) ?_
  intro v5 w5 o5 g5 _
  obtain ⟨a5, c5, rfl⟩ := own_shape o5
  have o5b : w5.ownsRow base 5 1 (.slice a5 (s.length + 1) c5) (s ++ [UInt8.ofNat (alen x.data.toList)]).length (bcells (s ++ [UInt8.ofNat (alen x.data.toList)])) := by
    have e : Value.int .u8 ((alen x.data.toList : Nat) : Int) = bcell (UInt8.ofNat (alen x.data.toList)) := byte_val _ _ (by omega) rfl
    rw [e] at o5
    rw [bcells_append, List.length_append]; exact o5
  obtain ⟨h5, r1, r2⟩ := out_put hbase (kf.obj (fun e => e) OBD.out) (own_chg ORD.out kf (fun _ _ e => e)) o5b (Chg.of_grown g5)
  have q1 := cell_of (o := 1) h5 rfl
  have f1 := frozen_of (o := 1) h5
  have R1 := Lib.hid r1
  have R2 := Lib.hid (KD.out.trans (ka.trans r2))
  clear h5 r1 r2 o5b o5 g5 ka kf OBD ORD KD d0 WL1 WL
  go_wp2_with fail
  refine ⟨.inr q1, ?_⟩
  refine planL_ef rfl ?_
  go_wp2_with fail
  refine ⟨.inr q1, ?_⟩
  refine planL_ef rfl ?_
  go_wp2_with fail
  refine ⟨.inr q1, ?_⟩
  refine planL_ef rfl ?_
  refine wpList_store_one rfl 107 (.tmp 26) (.tmp 24) rfl b 1 rfl (.slice a5 (s.length + 1) c5) rfl rfl rfl Tryz.sizeBytes _ q1 f1 ?_
  intro w7 hw7
  rw [← hw7] at R1 R2
  refine ⟨.inl rfl, planL_nil ?_⟩
  clear hw7 q1 f1
  obtain ⟨v8, h1, h2⟩ := R1.out.row
  have OB := Lib.hid h1
  have OR := Lib.hid h2
  obtain ⟨va, vc, rfl⟩ := own_shape h2
  have c1 := cell_of (o := 1) h1 rfl
  have hbr : base ≤ w7.heap.size := by have := lt_of_obj h1; omega
  have hl9 : (s ++ [UInt8.ofNat (alen x.data.toList)]).length ≤ 100001 := by simp; omega
  clear h1 h2 R1
  generalize hsl : s ++ [UInt8.ofNat (alen x.data.toList)] = s1 at *
  have HSL := Lib.hid hsl
  clear hsl
  go_wp2_with (at_builtin; refine wpList_push_string rfl (.tmp 31) (.tmp 32) 107 23 rfl 5 Tryz.underlying107 Tryz.underlying23 Tryz.infoByte base _ s1.length (bcells s1) rfl OR.out x rfl ?e1 ?e2 ?e3)
  case e1 => omega
  case e2 => omega
  intro v9 w9 o9 g9
  obtain ⟨a9, c9, rfl⟩ := own_shape o9
  have o9b : w9.ownsRow base 5 1 (.slice a9 (s1.length + x.size) c9) (s1 ++ x.data.toList).length (bcells (s1 ++ x.data.toList)) := by
    rw [bcells_append, List.length_append, size_list]; exact o9
  obtain ⟨h9, r1, r2⟩ := out_put hbase OB.out OR.out o9b (Chg.of_grown g9)
  have EQ : s1 ++ x.data.toList = s ++ wordE x := by rw [← HSL.out]; unfold wordE; simp
  rw [EQ] at r1
  have R3 := Lib.hid r1
  have R4 := Lib.hid (R2.out.trans r2)
  have q1 := cell_of (o := 1) h9 rfl
  have f1 := frozen_of (o := 1) h9
  clear h9 r1 r2 o9b o9 g9 OB OR R2 c1 EQ HSL
  go_wp2
  go_end0
  exact ⟨rfl, R3.out, R4.out⟩
end Go.Proofs.YtdgmjablkdemmaaGreat

namespace Go.Proofs.YtdgmjablkdemmaaGreat
open Go.RowKit Go.Maps

theorem wordsE_take {l : List ByteArray} {k : Nat} {x : ByteArray} (hx : l[k]? = some x) : wordsE (l.take (k + 1)) = wordsE (l.take k) ++ wordE x := by
  unfold wordsE
  rw [List.take_add_one, hx, List.flatMap_append]; simp
theorem wordE_len {x : ByteArray} (h : mayB x.data.toList = true) : (wordE x).length ≤ 17 := by
  obtain ⟨h1, h2⟩ := may_len h
  unfold wordE
  rw [List.length_cons]; omega
theorem wordsE_len : ∀ (l : List ByteArray), (∀ x ∈ l, mayB x.data.toList = true) → (wordsE l).length ≤ 17 * l.length
  | [], _ => by simp [wordsE]
  | a :: l, h => by
    unfold wordsE
    rw [List.flatMap_cons, List.length_append, List.length_cons]
    have h1 := wordE_len (h a List.mem_cons_self)
    have h2 := wordsE_len l (fun x hx => h x (List.mem_cons_of_mem _ hx))
    unfold wordsE at h2
    omega
set_option maxHeartbeats 2000000 in
set_option maxRecDepth 100000 in
theorem oset_any (w : World) (base b : Nat) (s : List UInt8) (l : List ByteArray) (a : Option Addr) (n c : Nat) (G : Nat → Prop) (h : OutAt w base b s) (hv : WordsAt w (.slice a n c) G l) (hG : ∀ k, G k → k < base) (hl : setB l = true) (hs : s.length ≤ 1000) :
    Calls Tryz.prog 63 #[.pointer (some ⟨b, 0, none⟩), .slice a n c] w fun e w' => e = .returned (.tuple #[]) ∧ OutAt w' base b (s ++ setE l) ∧ Chg (fun k => base ≤ k) w w' := by
  have H := Lib.hid h
  have HV := Lib.hid hv
  have l16 : l.length ≤ 16 := by
    obtain ⟨_, q, _⟩ := of_decide_eq_true hl
    rwa [lists_len] at q
  have MAY := Lib.hid (show ∀ x ∈ l, mayB x.data.toList = true from fun x hx => setB_mayC hl hx)
  have hbase := h.base
  have SM := setMay_any w _ G l hv
  rw [hl] at SM
  have SM := Lib.hid SM
  obtain ⟨_, _, e, hl0, _⟩ := hv
  cases e
  clear h hl
  unfold maxLen at hl0
  go_enter Tryz.func63, Tryz.ntmps63
  go_wp2_with fail
  (with_reducible refine (SM.out).mono ?_)
  rintro e w1 ⟨rfl, d1⟩
  have k1 : Chg (fun _ => False) w w1 := d1.chg
  have H1 := Lib.hid (H.out.chg k1 (fun _ _ e => e))
  have K1 := Lib.hid (show Chg (fun k => base ≤ k) w w1 from k1.mono (fun _ _ e => e.elim))
  obtain ⟨v, h1, h2⟩ := H1.out.row
  have WE := Lib.hid (well_any w1 b v h1)
  have OB := Lib.hid h1
  have OR := Lib.hid h2
  obtain ⟨va, vc, rfl⟩ := own_shape h2
  have c1 := cell_of (o := 1) h1 rfl
  have hbr : base ≤ w1.heap.size := by have := lt_of_obj h1; omega
  clear h1 h2 k1 d1 SM H H1
  go_wp2_with fail
  (with_reducible refine (WE.out).mono ?_)
  rintro e w2 ⟨rfl, rfl⟩
  clear WE
  go_wp2_with (at_builtin; refine wpList_pushF rfl (.tmp 22) (.tmp 26) 107 rfl 5 1 1 Tryz.underlying107 Tryz.elemByte base _ s.length (bcells s) rfl ?a1 w1.heap.size [.int .u8 (l.length : Int)] 5 (0, 0) rfl ?a2 rfl ?a3 ?a4 ?a5 ?a6 ?a7)
  case a1 => exact own_chg OR.out (chg_alloc (fun _ => False) _ _) (fun _ _ e => e)
  case a2 => exact obj_alloc_new _ _
  case a3 => intro u hu; simp at hu; subst hu; rfl
  case a4 => omega
  case a5 => unfold maxLen; omega
  case a6 => simp; omega
  intro v5 w5 o5 g5 _
  obtain ⟨a5, c5, rfl⟩ := own_shape o5
  have ka := chg_alloc (fun k => base ≤ k) w1 (.cells #[.int .u8 (l.length : Int)] 5)
  have kf := chg_alloc (fun _ => False) w1 (.cells #[.int .u8 (l.length : Int)] 5)
  have o5b : w5.ownsRow base 5 1 (.slice a5 (s.length + 1) c5) (s ++ [UInt8.ofNat l.length]).length (bcells (s ++ [UInt8.ofNat l.length])) := by
    have e : Value.int .u8 (l.length : Int) = bcell (UInt8.ofNat l.length) := byte_val _ _ (by omega) rfl
    rw [e] at o5
    rw [bcells_append, List.length_append]; exact o5
  obtain ⟨h5, r1, r2⟩ := out_put hbase (kf.obj (fun e => e) OB.out) (own_chg OR.out kf (fun _ _ e => e)) o5b (Chg.of_grown g5)
  have q1 := cell_of (o := 1) h5 rfl
  have f1 := frozen_of (o := 1) h5
  have R1 := Lib.hid r1
  have R2 := Lib.hid (K1.out.trans (ka.trans r2))
  clear h5 r1 r2 o5b o5 g5 ka kf OB OR K1 c1
  go_wp2
  generalize w5.setCell ⟨b, 1, none⟩ (.slice a5 (s.length + 1) c5) = w6 at *
  go_loopw [32] (fun iv wr => ∃ k : Nat, k ≤ l.length ∧ iv = .int .i64 k ∧ Hid (OutAt wr base b ((s ++ [UInt8.ofNat l.length]) ++ wordsE (l.take k)) ∧ Chg (fun k => base ≤ k) w wr)) (fun iv _ => l.length - (intOf iv).toNat)
  case atStart => exact ⟨0, by omega, rfl, Lib.hid ⟨by simpa [wordsE] using R1.out, R2.out⟩⟩
  case round =>
    obtain ⟨k, hk, rfl, HI⟩ := hrel
    clear q1 f1
    by_cases hlt : k < l.length
    · obtain ⟨x, hx⟩ : ∃ x, l[k]? = some x := ⟨_, List.getElem?_eq_getElem hlt⟩
      obtain ⟨_, _, e1, _, hcl⟩ := HV.out.chg HI.out.2 (fun k hk e => by have := hG k hk; omega)
      cases e1
      obtain ⟨lb, lo, rfl, _, c0, _⟩ := hcl k x hx
      have WW := wordsE_len (l.take k) (fun y hy => MAY.out y (List.mem_of_mem_take hy))
      rw [List.length_take] at WW
      have OW := oword_any wr base b _ x HI.out.1 (MAY.out x (List.mem_of_getElem? hx)) (by rw [List.length_append, List.length_append]; simp; omega)
      rw [List.append_assoc, ← wordsE_take hx] at OW
      have OW := Lib.hid OW
      have KI := Lib.hid HI.out.2
      clear hcl hx HI WW
      go_wp2_with fail
      (with_reducible refine (OW.out).mono ?_)
      rintro e w7 ⟨rfl, h7, k7⟩
      have H7 := Lib.hid h7
      have K7 := Lib.hid (KI.out.trans k7)
      clear h7 k7 OW KI c0
      go_wp2
      go_roundw
      case rel => exact ⟨k + 1, by omega, by go_num, Lib.hid ⟨H7.out, K7.out⟩⟩
      case measure => simp [intOf]; omega
    · obtain rfl : k = l.length := by omega
      have FIN := Lib.hid (show OutAt wr base b (s ++ setE l) from by
        have := HI.out.1
        rw [List.take_length] at this
        unfold setE
        rw [List.append_assoc] at this
        exact this)
      have KI := Lib.hid HI.out.2
      clear HI
      go_wp2
      go_end0
      exact ⟨rfl, FIN.out, KI.out⟩
set_option maxRecDepth 100000 in
theorem odone_any (w : World) (base b : Nat) (s : List UInt8) (h : OutAt w base b s) (h1 : 1 ≤ s.length) (hs : s.length ≤ 100000) :
    Calls Tryz.prog 64 #[.pointer (some ⟨b, 0, none⟩)] w fun e w' => e = .returned (.tuple #[.string ⟨s.toArray⟩, .int .i64 0]) ∧ w = w' := by
  obtain ⟨v, hb, ho⟩ := h.row
  have WE := Lib.hid (well_any w b v hb)
  have c1 := cell_of (o := 1) hb rfl
  obtain ⟨ra, rc, rfl, hrl, hcl⟩ := own_get ho
  unfold maxLen at hrl
  obtain ⟨g, rfl, _, _⟩ := hcl 0 _ (bcells_get s 0 (by omega))
  have hcv := run_convert_bytes_arg (P := Tryz.prog) w 107 5 Tryz.underlying107 Tryz.underlying5 g 0 s.length rc (s.map fun c => (c.toNat : Int)) (by rw [List.length_map])
    (fun i hi => by
      obtain ⟨g', e', _, cx⟩ := hcl i _ (bcells_get s i hi)
      cases e'
      rw [Nat.zero_add]; exact cx) 9 Tryz.underlying9
  rw [strOfNums_bytes] at hcv
  clear hcl hb ho h
  go_enter Tryz.func64, Tryz.ntmps64
  go_wp2_with fail
  (with_reducible refine (WE.out).mono ?_)
  rintro e w2 ⟨rfl, rfl⟩
  go_wp2
  go_ret2
  exact ⟨rfl, rfl⟩
end Go.Proofs.YtdgmjablkdemmaaGreat

namespace Go.Proofs.YtdgmjablkdemmaaGreat
open Go.RowKit Go.Maps

theorem onumZ (w : World) (base b : Nat) (s : List UInt8) (z : Int) (h : OutAt w base b s) (h0 : 0 ≤ z) (hn : z ≤ 4611686018427387904) (hs : s.length ≤ 100000) :
    Calls Tryz.prog 61 #[.pointer (some ⟨b, 0, none⟩), .int .i64 z] w fun e w' => e = .returned (.tuple #[]) ∧ OutAt w' base b (s ++ numE z.toNat) ∧ Chg (fun k => base ≤ k) w w' := by
  have := onum_any w base b s z.toNat h (by omega) hs
  rwa [show ((z.toNat : Nat) : Int) = z from by omega] at this
theorem numE_len1 (n : Nat) : 1 ≤ (numE n).length := by
  rcases Nat.lt_or_ge n 128 with h | h
  · rw [numE_small h]; simp
  · rw [numE_big h]; simp
def EncRes (w : World) (c : BCert) (b : Bool) (e : Ending) (w' : World) : Prop :=
  ((b = true ∧ e = .returned (.tuple #[.string ⟨(certE c).toArray⟩, .int .i64 0])) ∨ (b = false ∧ ∃ k : Int, k ≠ 0 ∧ e = .returned (.tuple #[.string ⟨#[]⟩, .int .i64 k]))) ∧ Chg (fun _ => False) w w'
theorem num9 {z : Int} (h : z ≤ 4611686018427387904) : (numE z.toNat).length ≤ 9 := numE_len 8 _ (by omega)
set_option maxHeartbeats 8000000 in
set_option maxRecDepth 100000 in
theorem encode_any (w : World) (c : BCert) (sa : Option Addr) (sc : Nat) (G : Nat → Prop) (h : CertAt w (.slice sa c.fr.length sc) G c) (hG : ∀ k, G k → k < w.heap.size) :
    Calls Tryz.prog 39 #[certV c (.slice sa c.fr.length sc)] w (EncRes w c (certB c)) := by
  have k0 := chg_alloc (fun _ => False) w (.cells #[.int .i64 c.kind, .int .u16 (c.sg : Int), .string c.sp, .slice sa c.fr.length sc, .int .i64 c.f, .int .i64 c.t, .int .i64 c.n] 34)
  have OB := Lib.hid (obj_alloc_new w (.cells #[.int .i64 c.kind, .int .u16 (c.sg : Int), .string c.sp, .slice sa c.fr.length sc, .int .i64 c.f, .int .i64 c.t, .int .i64 c.n] 34))
  have K0 := Lib.hid k0
  have hsz : (w.alloc (.cells #[.int .i64 c.kind, .int .u16 (c.sg : Int), .string c.sp, .slice sa c.fr.length sc, .int .i64 c.f, .int .i64 c.t, .int .i64 c.n] 34)).heap.size = w.heap.size + 1 := World.size_alloc _ _
  have HS := Lib.hid (h.chg k0 (fun _ _ e => e))
  have CK := Lib.hid (check_any _ c sa sc G HS.out)
  have CM := Lib.hid (fun e : certB c = true => certB_may e)
  have CE := Lib.hid (show certE c = numE c.kind.toNat ++ (numE c.sg ++ (wordE c.sp ++ (setE c.fr ++ (numE c.f.toNat ++ (numE (c.t - c.f).toNat ++ numE c.n.toNat))))) from rfl)
  have GD := Lib.hid hG
  unfold EncRes
  generalize certE c = ce at *
  generalize certB c = res at *
  obtain ⟨_, scap', eqn, hl0, _⟩ := h.set.at_
  cases eqn
  obtain ⟨kind, sg, sp, fr, f, t, n⟩ := c
  unfold certV at CK ⊢
  simp only at OB K0 hsz HS CK CM CE hl0 ⊢
  unfold maxLen at hl0
  clear h k0 hG
  have p0 := cell_of (o := 0) OB.out rfl
  have p1 := cell_of (o := 1) OB.out rfl
  have p2 := cell_of (o := 2) OB.out rfl
  have p3 := cell_of (o := 3) OB.out rfl
  have p4 := cell_of (o := 4) OB.out rfl
  have p5 := cell_of (o := 5) OB.out rfl
  have p6 := cell_of (o := 6) OB.out rfl
  have P := Lib.hid (fun (B : Nat) (w1 : World) (hB : w.heap.size < B) (k : Chg (fun k => B ≤ k) (w.alloc (.cells #[.int .i64 kind, .int .u16 (sg : Int), .string sp, .slice sa fr.length sc, .int .i64 f, .int .i64 t, .int .i64 n] 34)) w1) => k.obj (fun e => by omega) OB.out)
  go_enter Tryz.func39, Tryz.ntmps39
  go_wp2_with fail
  generalize hw0 : w.alloc (.cells #[.int .i64 kind, .int .u16 (sg : Int), .string sp, .slice sa fr.length sc, .int .i64 f, .int .i64 t, .int .i64 n] 34) = w0 at *
  clear hw0 p0 p1 p2 p3 p4 p5 p6
  (with_reducible refine (CK.out).mono ?_)
  rintro e w1 ⟨⟨k, rfl, hk⟩, k1⟩
  clear CK
  have K1 := Lib.hid (K0.out.trans k1)
  by_cases hk0 : k = 0
  · subst hk0
    have hres : res = true := hk.1 rfl
    subst hres
    have C := CM.out rfl
    have C1 : 1 ≤ kind := C.k1
    have C2 : kind ≤ 7 := C.k7
    have C3 : sg / 8192 = 1 := C.sg
    have C4 : mayB sp.data.toList = true := C.sp
    have C5 : setB fr = true := C.fr
    have C6 : 0 ≤ f := C.f0
    have C7 : f ≤ 4611686018427387904 := C.f1
    have C8 : 0 ≤ t := C.t0
    have C9 : t ≤ 4611686018427387904 := C.t1
    have C10 : 0 ≤ n := C.n0
    have C11 : n ≤ 4611686018427387904 := C.n1
    have C12 : f ≤ t := C.ft
    have hfl : fr.length ≤ 16 := by
      obtain ⟨_, q, _⟩ := of_decide_eq_true C5
      rwa [lists_len] at q
    have L1 := num9 (z := kind) (by omega)
    have L2 : (numE sg).length ≤ 9 := numE_len 8 _ (by omega)
    have L3 := wordE_len C4
    have L4 : (setE fr).length ≤ 17 * fr.length + 1 := by
      have := wordsE_len fr (fun x hx => setB_mayC C5 hx)
      unfold setE; rw [List.length_cons]; omega
    have L5 := num9 (z := f) (by omega)
    have L6 := num9 (z := t - f) (by omega)
    have L7 := num9 (z := n) (by omega)
    have LL := Lib.hid (And.intro L1 (And.intro L2 (And.intro L3 (And.intro L4 (And.intro L5 (And.intro L6 L7))))))
    have hwr : IntKind.i64.wrap (t - f) = t - f := by rw [IntKind.wrap_i64]; omega
    clear L1 L2 L3 L4 L5 L6 L7 C CM
    have hs1 : w0.heap.size ≤ w1.heap.size := k1.size
    have ka := chg_alloc (fun _ => False) w1 (.cells #[.int .i64 0, .slice none 0 0] 111)
    have OB1 := obj_alloc_new w1 (.cells #[.int .i64 0, .slice none 0 0] 111)
    have sz1 : (w1.alloc (.cells #[.int .i64 0, .slice none 0 0] 111)).heap.size = w1.heap.size + 1 := World.size_alloc _ _
    have O1 : OutAt (w1.alloc (.cells #[.int .i64 0, .slice none 0 0] 111)) w1.heap.size w1.heap.size [] := ⟨⟨_, OB1, World.ownsRow_nil _ _ _ _⟩, Nat.le_refl _⟩
    have KA := Lib.hid (show Chg (fun k => w1.heap.size ≤ k) w0 (w1.alloc (.cells #[.int .i64 0, .slice none 0 0] 111)) from (k1.trans ka).mono (fun _ _ e => e.elim))
    have N1 := Lib.hid (onumZ _ _ _ [] kind O1 (by omega) (by omega) (by simp))
    have f0 := P.out w1.heap.size _ (by omega) KA.out
    have q0 := cell_of (o := 0) f0 rfl
    clear f0 O1 OB1 ka hk
    go_wp2_with fail
    generalize hB : w1.heap.size = B at *
    generalize hwa : w1.alloc (.cells #[.int .i64 0, .slice none 0 0] 111) = wa at *
    clear hwa q0
    (with_reducible refine (N1.out).mono ?_)
    rintro e w2 ⟨rfl, o2, k2⟩
    clear N1
    have O2 := Lib.hid o2
    have K2 := Lib.hid k2
    clear o2 k2
    have f0 := P.out B _ (by omega) (KA.out.trans K2.out)
    have q1 := cell_of (o := 1) f0 rfl
    have N2 := Lib.hid (onum_any _ _ _ _ sg O2.out (by omega) (by have := LL.out; simp only [List.length_append, List.length_nil]; omega))
    clear f0
    go_wp2_with fail
    (with_reducible refine (N2.out).mono ?_)
    rintro e w3 ⟨rfl, o3, k3⟩
    have O3 := Lib.hid o3
    have K3 := Lib.hid (K2.out.trans k3)
    clear o3 k3 N2 O2 K2 q1
    have f0 := P.out B _ (by omega) (KA.out.trans K3.out)
    have q2 := cell_of (o := 2) f0 rfl
    have N3 := Lib.hid (oword_any _ _ _ _ sp O3.out C4 (by have := LL.out; simp only [List.length_append, List.length_nil]; omega))
    clear f0
    go_wp2_with fail
    (with_reducible refine (N3.out).mono ?_)
    rintro e w4 ⟨rfl, o4, k4⟩
    have O4 := Lib.hid o4
    have K4 := Lib.hid (K3.out.trans k4)
    clear o4 k4 N3 O3 K3 q2
    have f0 := P.out B _ (by omega) (KA.out.trans K4.out)
    have q3 := cell_of (o := 3) f0 rfl
    have N4 := Lib.hid (oset_any _ _ _ _ fr sa fr.length sc G O4.out (HS.out.set.chg (KA.out.trans K4.out) (fun k hk e => by have := GD.out k hk; omega)).at_ (fun k hk => by have := GD.out k hk; omega) C5 (by have := LL.out; simp only [List.length_append, List.length_nil]; omega))
    clear f0
    go_wp2_with fail
    (with_reducible refine (N4.out).mono ?_)
    rintro e w5 ⟨rfl, o5, k5⟩
    have O5 := Lib.hid o5
    have K5 := Lib.hid (K4.out.trans k5)
    clear o5 k5 N4 O4 K4 q3
    have f0 := P.out B _ (by omega) (KA.out.trans K5.out)
    have q4 := cell_of (o := 4) f0 rfl
    have N5 := Lib.hid (onumZ _ _ _ _ f O5.out (by omega) (by omega) (by have := LL.out; simp only [List.length_append, List.length_nil]; omega))
    clear f0
    go_wp2_with fail
    (with_reducible refine (N5.out).mono ?_)
    rintro e w6 ⟨rfl, o6, k6⟩
    have O6 := Lib.hid o6
    have K6 := Lib.hid (K5.out.trans k6)
    clear o6 k6 N5 O5 K5 q4
    have f0 := P.out B _ (by omega) (KA.out.trans K6.out)
    have q5 := cell_of (o := 5) f0 rfl
    have q4 := cell_of (o := 4) f0 rfl
    have N6 := Lib.hid (onumZ _ _ _ _ (t - f) O6.out (by omega) (by omega) (by have := LL.out; simp only [List.length_append, List.length_nil]; omega))
    clear f0
    go_wp2_with fail
    (with_reducible refine (N6.out).mono ?_)
    rintro e w7 ⟨rfl, o7, k7⟩
    have O7 := Lib.hid o7
    have K7 := Lib.hid (K6.out.trans k7)
    clear o7 k7 N6 O6 K6 q5 q4
    have f0 := P.out B _ (by omega) (KA.out.trans K7.out)
    have q6 := cell_of (o := 6) f0 rfl
    have N7 := Lib.hid (onumZ _ _ _ _ n O7.out (by omega) (by omega) (by have := LL.out; simp only [List.length_append, List.length_nil]; omega))
    clear f0
    go_wp2_with fail
    (with_reducible refine (N7.out).mono ?_)
    rintro e w8 ⟨rfl, o8, k8⟩
    have O8 := Lib.hid o8
    have K8 := Lib.hid (K7.out.trans k8)
    clear o8 k8 N7 O7 K7 q6
    have N8 := Lib.hid (odone_any _ _ _ _ O8.out (by have := numE_len1 kind.toNat; simp only [List.length_append, List.length_nil]; omega) (by have := LL.out; simp only [List.length_append, List.length_nil]; omega))
    go_wp2_with fail
    (with_reducible refine (N8.out).mono ?_)
    rintro e w9 ⟨rfl, rfl⟩
    have R := Lib.hid (show ce = (((((([] ++ numE kind.toNat) ++ numE sg) ++ wordE sp) ++ setE fr) ++ numE f.toNat) ++ numE (t - f).toNat) ++ numE n.toNat from by rw [CE.out]; simp)
    generalize (((((([] ++ numE kind.toNat) ++ numE sg) ++ wordE sp) ++ setE fr) ++ numE f.toNat) ++ numE (t - f).toNat) ++ numE n.toNat = ce2 at *
    have FIN := Lib.hid (show Chg (fun _ => False) w w8 from ((K0.out.mono (fun _ _ e => e.elim)).trans (KA.out.trans K8.out)).mono (fun k hk e => by omega))
    clear N8 LL CE O8
    go_wp2
    go_ret2
    have R2 := R.out
    subst R2
    exact ⟨rfl, FIN.out⟩
  · have hres : res = false := by
      cases res with
      | false => rfl
      | true => exact absurd (hk.2 rfl) hk0
    clear hk
    go_wp2
    go_ret2
    exact ⟨.inr ⟨hres, k, hk0, rfl⟩, K1.out⟩
end Go.Proofs.YtdgmjablkdemmaaGreat
