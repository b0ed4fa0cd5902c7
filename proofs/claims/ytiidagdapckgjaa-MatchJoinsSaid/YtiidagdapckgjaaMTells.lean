/-
  Layer 10: MatchTells, walked.
-/
import Derived.Test.YtiidagdapckgjaaMArgs
namespace Go.Proofs.Ytiidagdapckgjaa
open Go.RowKit Go.Maps

def wcells (l : List ByteArray) : List Value := l.map Value.string
theorem wcells_one (l : List ByteArray) : ∀ v ∈ wcells l, v.oneCell' = true := by
  intro v hv; simp [wcells] at hv; obtain ⟨c, _, rfl⟩ := hv; rfl
theorem Try.elemWord : ElemInfo Try.prog 23 1 16 := elemInfo_of (z := .string ⟨#[]⟩) (by kernel_rfl) rfl (by decide)
/-- 'append(s, l...)': s owned, l a slice of words that came in. -/
theorem wpList_words {w0 w : World} {ops : Array Oper} {rest : List Oper} {o : Oper} {a : Act} {Q : Exit → Act → World → Prop} (hgd : o.guard = none) (s x : Operand)
    (ho : o.op = .call { callee := .builtin .append, args := #[s, x], argTypes := #[22, 22] })
    (base : Nat) (v : Value) (n : Nat) (xs : List Value) (hs : a.eval s = v) (hown : w.ownsRow base 23 1 v n xs)
    (u : Value) (l : List ByteArray) (hx : a.eval x = u) (hu : WordsArg w0 u l) (hc : Chg (fun _ => False) w0 w) (hl : n + l.length ≤ 1000000) (hbase : base ≤ w.heap.size)
    (h : ∀ v' w', w'.ownsRow base 23 1 v' (n + l.length) (xs ++ wcells l) → w.grownBy w' v.ownBlock → wpList Try.prog ops Q rest (a.put o.dst v') w') : wpList Try.prog ops Q (o :: rest) a w := by
  obtain ⟨i, z, hi, hz, q1, q2, q3, q4⟩ := Try.elemWord
  obtain ⟨⟨la, cap, rfl, h1, h2⟩, h3⟩ := hu
  cases la with
  | none =>
    obtain ⟨e1, rfl⟩ := h3 _ _ rfl
    have : l = [] := List.eq_nil_of_length_eq_zero e1
    subst this
    refine wpList_append_own_none hgd s x _ ho base _ i 1 Try.underlying22 hi v n xs hs hown hx ?_
    exact h v w (by simpa [wcells] using hown) ⟨rfl, rfl, rfl, Nat.le_refl _, fun _ _ _ => rfl⟩
  | some ad =>
    refine wpList_append_own w hgd s x _ ho base _ i z 1 16 Try.underlying22 hi hz q1 q2 q3 q4 v n xs hs hown ad l.length cap (wcells l) hx (by simp [wcells]) ?_ (wcells_one l) (by unfold maxLen; omega) (by omega) hbase (fun v' w' g1 g2 _ => h v' w' g1 g2)
    intro j y hj
    unfold wcells at hj
    rw [List.getElem?_map] at hj
    cases hq : l[j]? with
    | none => rw [hq] at hj; cases hj
    | some b =>
      rw [hq] at hj
      cases hj
      obtain ⟨lb, lo, e, _, c, _⟩ := h2 j b hq
      cases e
      rw [addr_add]; exact cell_chg hc (fun e => e) c
theorem wordsAt_own {w : World} {base : Nat} {v : Value} {l : List ByteArray} (h : w.ownsRow base 23 1 v l.length (wcells l)) (hs : ∀ x ∈ l, x.size ≤ 400) : WordsAt w v (· < w.heap.size) l := by
  obtain ⟨a, cap, rfl, h1, h2⟩ := own_get h
  refine ⟨a, cap, rfl, h1, fun j x hj => ?_⟩
  obtain ⟨g, rfl, hg, c⟩ := h2 j (.string x) (by unfold wcells; rw [List.getElem?_map, hj]; rfl)
  exact ⟨g, 0, rfl, World.block_lt_of_cell? w _ c, by rw [Nat.zero_add]; exact c, by have := hs x (List.mem_of_getElem? hj); unfold maxLen; omega⟩
theorem largeB_false {l : List ByteArray} {s : ByteArray} (h : largeB l s = false) : l.length ≤ 100 ∧ s.size ≤ 400 ∧ ∀ x ∈ l, x.size ≤ 400 := by
  unfold largeB at h
  simp only [Bool.or_eq_false_iff, decide_eq_false_iff_not, List.any_eq_false, decide_eq_true_eq] at h
  exact ⟨by omega, by omega, fun x hx => by have := h.2 x hx; omega⟩
theorem MachAt.chgS {S : Nat → Prop} {w w' : World} {base : Nat} {B : MB} {cs : List (Value × Value)} {ps : List (List Nat)} {wh : List Nat → List Nat} (h : MachAt w base B cs ps wh) (hc : Chg S w w') (hs : ∀ k, base ≤ k → k < w.heap.size → ¬ S k) : MachAt w' base B cs ps wh := by
  refine ⟨hc.obj (hs _ h.bb (lt_of_obj h.hb)) h.hb, own_chg h.hg hc (fun k hk => hs k (h.hg.lt k hk).1 (h.hg.lt k hk).2), h.len, fun k p c hp hcc => ?_, fun k p c hp hcc => own_chg (h.ew k p c hp hcc) hc (fun x hx => hs x ((h.ew k p c hp hcc).lt x hx).1 ((h.ew k p c hp hcc).lt x hx).2), h.ap, h.ag, h.bg, h.bb⟩
  exact (h.em k p c hp hcc).chg hc (fun x hx => hs x (h.blt (cell_flat1 hcc) (mapBlock_blockOf hx)).1 (h.blt (cell_flat1 hcc) (mapBlock_blockOf hx)).2)
theorem rowAt_hits {w : World} {base : Nat} {v : Value} {n : Nat} {xs : List Value} (h : w.ownsRow base 32 2 v n xs) (hn : 0 < n) :
    ∃ g cap, v = .slice (some ⟨g, 0, none⟩) n cap ∧ base ≤ g ∧ RowAt w g 32 xs := by
  obtain ⟨h1, h2 | ⟨g, cap, cur, rfl, hg, hh, q1, q2, q3, q4⟩⟩ := h
  · omega
  · refine ⟨g, cap, rfl, hg, cur.toList.drop (n * 2), ?_⟩
    rw [hh]
    have : xs ++ cur.toList.drop (n * 2) = cur.toList := by rw [← q4, List.take_append_drop]
    rw [this, Array.toArray_toList]
theorem Chg.next {S T : Nat → Prop} {a b c : World} (h : Chg S a b) (k : Chg T b c) (hs : ∀ i, i < a.heap.size → T i → S i) : Chg S a c :=
  ⟨k.os.trans h.os, k.tape.trans h.tape, k.output.trans h.output, Nat.le_trans h.size k.size, fun i hi hn => (k.block i (Nat.lt_of_lt_of_le hi h.size) (fun e => hn (hs i hi e))).trans (h.block i hi hn)⟩
theorem quiet_at {P : Program} {f : FuncId} {args : Array Value} {w : World} {v : Value} (h : ∀ n, Calls P f args (w.drewN n) fun e w' => e = .returned v ∧ w.drewN n = w') {n : Nat} : Calls P f args (w.drewN n) fun e w'' => e = .returned v ∧ ∃ m, w'' = w.drewN m :=
  (h n).mono fun _ _ ⟨he, hm⟩ => ⟨he, n, hm.symm⟩
theorem own_some {w : World} {base : Nat} {e : TypeId} {size n c m : Nat} {a : Option Addr} {xs : List Value} (h : w.ownsRow base e size (.slice a n c) m xs) (hn : 0 < m) : ∃ g, a = some ⟨g, 0, none⟩ := by
  obtain ⟨_, ⟨_, rfl⟩ | ⟨g, cap, cur, e, _⟩⟩ := h
  · omega
  · cases e; exact ⟨g, rfl⟩
theorem RowAt.some {w : World} {g : Nat} {t : TypeId} {xs : List Value} (h : RowAt w g t xs) {i : Nat} (hi : i < xs.length) : ∃ v, w.cell? ⟨g, i, none⟩ = some v := ⟨_, h.cell (List.getElem?_eq_getElem hi)⟩
theorem same_true (w : World) (va vb : Value) (a : List (Nat × Nat)) (G G' : Nat → Prop) (ha : HitsAt w va G a) (hb : HitsAt w vb G' a) :
    Calls Try.prog 15 #[va, vb] w fun e w' => e = .returned (.bool true) ∧ Chg (fun _ => False) w w' :=
  (same_any w va vb a a G G' ha hb).mono fun e w' ⟨he, hc⟩ => ⟨by rw [he]; simp, hc⟩
set_option maxHeartbeats 4000000 in
set_option maxRecDepth 100000 in
theorem tells_law (w : World) (v : Value) (s : ByteArray) (l : List ByteArray) (hs : s.size ≤ maxLen) (hv : WordsArg w v l) :
    Calls Try.prog 3 #[v, .string s] w fun e w' => e = .returned (.bool true) ∧ Chg (fun _ => False) w w' := by
  have hv0 := hv.at_
  obtain ⟨la, cap, rfl, hl0, hl3⟩ := hv0
  clear hl3
  have HV := Lib.hid hv
  have HS := Lib.hid hs
  unfold maxLen at hs hl0
  clear hv
  go_enter Try.func3, Try.ntmps3
  go_wp2_with fail
  refine (awake_any w).mono ?_
  rintro e w1 ⟨rfl, k1⟩
  have K1 := Lib.hid k1
  have V1 := Lib.hid (HV.out.at_.chg k1 (fun _ _ e => e))
  have LA := Lib.hid (large_any w1 _ l s _ V1.out HS.out)
  clear k1
  by_cases hla : largeB l s = true
  · rw [hla] at LA
    clear hla
    go_wp2_with fail
    refine (LA.out).mono ?_
    rintro e w1' ⟨rfl, rfl⟩
    go_wp2
    go_ret
    exact ⟨rfl, K1.out⟩
  have hla : largeB l s = false := by simpa using hla
  rw [hla] at LA
  obtain ⟨hl1, hs4, hx4⟩ := largeB_false hla
  have HX4 := Lib.hid hx4
  clear hla hx4
  go_wp2_with fail
  refine (LA.out).mono ?_
  rintro e w1' ⟨rfl, rfl⟩
  have O1 := Lib.hid (own_empty w1 w1.heap.size 23 1 (Nat.le_refl _))
  have C1 := Lib.hid (K1.out.alloc (.cells #[] 23))
  clear LA
  go_wp2_with (at_builtin; refine wpList_words (w0 := w) rfl (.tmp 18) (.tmp 19) rfl w1.heap.size _ 0 [] rfl O1.out _ l rfl HV.out C1.out ?c1 ?c2 ?next)
  case c1 => omega
  case c2 => simp
  intro v2 w2 o2 g2
  have o2 : w2.ownsRow w1.heap.size 23 1 v2 l.length (wcells l) := by simpa using o2
  have k2 : Chg (fun _ => False) w w2 := C1.out.grown g2 (fun k hk hlt => by
    have := (O1.out.lt k hk).1
    have := K1.out.size
    omega)
  have NEW := Lib.hid (new_any w2 v2 l (wordsAt_own o2 HX4.out) (by omega) HX4.out)
  obtain ⟨a2, cap2, rfl⟩ := own_shape o2
  have O2 := Lib.hid o2
  have K2 := Lib.hid k2
  clear o2 k2 g2 O1 C1 V1
  go_wp2_with fail
  refine (NEW.out).mono ?_
  rintro e w3 ⟨B, cs, rfl, hnw, m3, k3⟩
  have M3 := Lib.hid m3
  have NW := Lib.hid hnw
  have O3 := Lib.hid (own_chg O2.out k3 (fun _ _ e => e))
  have K3 := Lib.hid (K2.out.trans k3)
  have LT := Lib.hid (show ∀ k, (Value.slice a2 l.length cap2).ownBlock = some k → w.heap.size ≤ k ∧ k < w2.heap.size from fun k hk => by
    have h1 := O2.out.lt k hk
    have h2 := K1.out.size
    exact ⟨by omega, h1.2⟩)
  clear m3 hnw k3 NEW O2
  go_wp2
  go_loopw [25] (fun iv wr => ∃ k : Nat, k ≤ l.length ∧ iv = .int .i64 k ∧ Hid (Chg (fun x => (Value.slice a2 l.length cap2).ownBlock = some x) w3 wr ∧ ∃ xs, wr.ownsRow w1.heap.size 23 1 (.slice a2 l.length cap2) l.length xs)) (fun iv _ => l.length - (intOf iv).toNat)
  case atStart => exact ⟨0, by omega, rfl, Lib.hid ⟨Chg.refl _ _, _, O3.out⟩⟩
  case round =>
    obtain ⟨k, hk, rfl, HR⟩ := hrel
    by_cases hlt : k < l.length
    · obtain ⟨hc, xs, ho⟩ := HR.out
      obtain ⟨g, rfl⟩ := own_some ho (by omega)
      have c0 := ho.cellAt k (by omega)
      have hxl := ho.1
      rw [List.getElem?_eq_getElem (by omega)] at c0
      generalize xs[k] = u at c0
      have f0 := ho.frozenAt k
      have ST := Lib.hid (ho.stored k (.string ⟨#[63]⟩))
      have HC := Lib.hid hc
      clear HR ho hxl hc
      go_wp2
      go_roundw
      case rel => exact ⟨k + 1, by omega, by go_num, Lib.hid ⟨HC.out.grown ST.out.2 (fun x hx _ => hx), _, ST.out.1⟩⟩
      case measure => simp [intOf]; omega
    · obtain rfl : k = l.length := by omega
      obtain ⟨hc, xs, ho⟩ := HR.out
      have KR := Lib.hid (show Chg (fun _ => False) w wr from K3.out.next hc (fun k hk e => by have := (LT.out k e).1; omega))
      have MR := Lib.hid (M3.out.chgS hc (fun k hk _ e => by have := (LT.out k e).2; omega))
      have VR := Lib.hid (HV.out.at_.chg KR.out (fun _ _ e => e))
      have RA := Lib.hid (rall_any wr _ l s (by obtain ⟨q1, q2, q3, q4, q5⟩ := VR.out; exact ⟨q1, q2, q3, q4, fun j x hj => by obtain ⟨z1, z2, z3, z4, z5⟩ := q5 j x hj; exact ⟨z1, z2, z3, Nat.lt_of_lt_of_le z4 KR.out.size, z5⟩⟩) (by omega) HX4.out hs4)
      clear hc ho HR O3 K3 M3 VR
      go_wp2_with fail
      refine (RA.out).mono ?_
      rintro e w4 ⟨vw, rfl, o4, k4⟩
      have M4 := Lib.hid (MR.out.chg k4)
      have K4 := Lib.hid (KR.out.trans k4)
      have K24 := Lib.hid (KR.out.trans k4)
      have ALL := Lib.hid (all_any w4 w2.heap.size B cs (lists l) s (by rw [lists_length]; exact M4.out) hs4 (by rw [lists_length]; omega))
      obtain ⟨lw, cw, rfl⟩ := own_shape o4
      have O4 := Lib.hid o4
      clear o4 k4 RA MR KR
      generalize hH : hits (lists l) s.data.toList = H at *
      go_wp2_with fail
      refine (ALL.out).mono ?_
      rintro e w5 ⟨vg, rfl, o5, k5⟩
      have M5 := Lib.hid (M4.out.chg k5)
      have K5 := Lib.hid (K4.out.trans k5)
      have K45 := Lib.hid k5
      have O45 := Lib.hid (own_chg O4.out k5 (fun _ _ e => e))
      have FI := Lib.hid (first_any w5 w2.heap.size B cs (lists l) s (by rw [lists_length]; exact M5.out) hs4 (by rw [lists_length]; omega))
      rw [hH] at FI
      obtain ⟨lg, cg, rfl⟩ := own_shape o5
      have O5 := Lib.hid o5
      have hHl : H.length ≤ 100000 := by
        have := hitsTo_length (lists l) s.data.toList (alen s.data.toList)
        rw [show hitsTo (lists l) s.data.toList (alen s.data.toList) = H from hH, lists_length] at this
        have h2 : alen s.data.toList ≤ 200 := by unfold alen; rw [size_list]; omega
        have h3 := Nat.mul_le_mul h2 hl1
        omega
      have HH := Lib.hid hH
      clear o5 k5 ALL K4 hH
      have SAME := Lib.hid (fun w6 (k6 : Chg (fun _ => False) w5 w6) => same_true w6 _ _ H _ _ (hitsAt_own (own_chg O5.out k6 (fun _ _ e => e))) (hitsAt_own (own_chg O45.out k6 (fun _ _ e => e))))
      have e1 : ((l.length : Int) == (l.length : Int)) = true := by simp
      rcases hq : H with _ | ⟨⟨x1, x2⟩, H'⟩
      · rw [show firstV H = .tuple #[.agg #[.int .i64 0, .int .i64 0], .bool false] by rw [hq]; rfl] at FI
        have h0 : decide (0 < H.length) = false := by rw [hq]; rfl
        rw [← hq]
        clear hq
        go_wp2_with fail
        refine (FI.out).mono ?_
        rintro e w6 ⟨rfl, k6⟩
        have C6 := Lib.hid (k6.alloc (.cells #[.int .i64 0, .int .i64 0] 32))
        have ML := Lib.hid (fun n => mlen_any _ w2.heap.size B cs _ _ (M5.out.chg (C6.out.drewN n)))
        rw [NW.out] at ML
        clear k6 FI
        go_wp2_with fail
        go_quiet ((go_at_call 14; exact quiet_at ML.out))
        rename_i nq
        have C7 := Lib.hid (C6.out.drewN nq)
        generalize (w6.alloc (.cells #[.int .i64 0, .int .i64 0] 32)).drewN nq = w7 at *
        clear h0 C6 ML
        have SM := Lib.hid (SAME.out w7 C7.out)
        clear SAME
        go_wp2_with fail
        refine (SM.out).mono ?_
        rintro e w8 ⟨rfl, k8⟩
        have C8 := Lib.hid (K45.out.trans (C7.out.trans k8))
        have K8 := Lib.hid (K5.out.trans (C7.out.trans k8))
        have O8 := Lib.hid (own_chg O5.out (C7.out.trans k8) (fun _ _ e => e))
        have LG := Lib.hid (O5.out.lt)
        clear SM C7 K5 M5 O5 K45 O45 k8
        obtain ⟨wo, rfl⟩ : ∃ wo : World, wo = wr := ⟨_, rfl⟩
        go_wp2
        go_loopw [81] (fun iv wr => ∃ k : Nat, k ≤ H.length ∧ iv = .int .i64 k ∧ Hid (Chg (fun x => (Value.slice lg H.length cg).ownBlock = some x) w8 wr ∧ ∃ xs, wr.ownsRow w4.heap.size 32 2 (.slice lg H.length cg) H.length xs)) (fun iv _ => H.length - (intOf iv).toNat)
        case atStart => exact ⟨0, by omega, rfl, Lib.hid ⟨Chg.refl _ _, _, O8.out⟩⟩
        case round =>
          obtain ⟨k, hk, rfl, HR⟩ := hrel
          by_cases hlt : k < H.length
          · obtain ⟨hc, xs, ho⟩ := HR.out
            obtain ⟨g, rfl⟩ := own_some ho (by omega)
            have c0 := ho.cellAt (k * 2) (by omega)
            have hxl := ho.1
            rw [List.getElem?_eq_getElem (by omega)] at c0
            generalize xs[k * 2] = u at c0
            have f0 := ho.frozenAt (k * 2)
            have ST := Lib.hid (ho.stored (k * 2) (.int .i64 99))
            have HC := Lib.hid hc
            clear HR ho hxl hc
            go_wp2
            go_roundw
            case rel => exact ⟨k + 1, by omega, by go_num, Lib.hid ⟨HC.out.grown ST.out.2 (fun x hx _ => hx), _, ST.out.1⟩⟩
            case measure => simp [intOf]; omega
          · obtain rfl : k = H.length := by omega
            obtain ⟨hc, xs, ho⟩ := HR.out
            have C9 := Lib.hid (show Chg (fun x => (Value.slice lg H.length cg).ownBlock = some x) w4 wr from (C8.out.mono (fun _ _ e => e.elim)).trans hc)
            have K9 := Lib.hid (show Chg (fun _ => False) w wr from K8.out.next hc (fun k hk e => by have := (LG.out k e).1; have := K24.out.size; omega))
            have M9 := Lib.hid (M4.out.chgS C9.out (fun k _ hk e => by have := (LG.out k e).1; omega))
            have O9 := Lib.hid (own_chg O4.out C9.out (fun k hk e => by have h1 := (O4.out.lt k hk).2; have := (LG.out k e).1; omega))
            have AL := Lib.hid (all_any wr w2.heap.size B cs (lists l) s (by rw [lists_length]; exact M9.out) hs4 (by rw [lists_length]; omega))
            rw [HH.out] at AL
            clear hc ho HR C9 M9 K8 C8 O8
            go_wp2_with fail
            refine (AL.out).mono ?_
            rintro e w10 ⟨vz, rfl, o10, k10⟩
            have SN := Lib.hid (same_true w10 _ _ H _ _ (hitsAt_own o10) (hitsAt_own (own_chg O9.out k10 (fun _ _ e => e))))
            have KA := Lib.hid (K9.out.trans k10)
            clear AL o10 k10
            go_wp2_with fail
            refine (SN.out).mono ?_
            rintro e w11 ⟨rfl, k11⟩
            have KB := Lib.hid (KA.out.trans k11)
            clear k11
            go_wp2
            go_ret
            exact ⟨rfl, KB.out⟩
      · rw [show firstV H = .tuple #[.agg #[.int .i64 (x1 : Int), .int .i64 (x2 : Int)], .bool true] by rw [hq]; rfl] at FI
        have h0 : 0 < H.length := by rw [hq]; simp
        obtain ⟨gw, rfl⟩ := own_some O45.out h0
        have c0 : w5.cell? ⟨gw, 0, none⟩ = some (.int .i64 (x1 : Int)) := by rw [O45.out.cellAt 0 (by omega), hq]; rfl
        have c1 : w5.cell? ⟨gw, 0 + 1, none⟩ = some (.int .i64 (x2 : Int)) := by rw [O45.out.cellAt 1 (by omega), hq]; rfl
        rw [← hq]
        clear hq
        go_wp2_with fail
        refine (FI.out).mono ?_
        rintro e w6 ⟨rfl, k6⟩
        have C6 := Lib.hid (k6.alloc (.cells #[.int .i64 (x1 : Int), .int .i64 (x2 : Int)] 32))
        have ML := Lib.hid (fun n => mlen_any _ w2.heap.size B cs _ _ (M5.out.chg (C6.out.drewN n)))
        rw [NW.out] at ML
        have d0 := cell_chg C6.out (fun e => e) c0
        have d1 := cell_chg C6.out (fun e => e) c1
        have y1 : ((x1 : Int) == (x1 : Int)) = true := by simp
        have y2 : ((x2 : Int) == (x2 : Int)) = true := by simp
        clear k6 FI c0 c1
        go_wp2_with fail
        go_quiet ((go_at_call 14; exact quiet_at ML.out))
        rename_i nq
        have C7 := Lib.hid (C6.out.drewN nq)
        generalize (w6.alloc (.cells #[.int .i64 (x1 : Int), .int .i64 (x2 : Int)] 32)).drewN nq = w7 at *
        clear h0 C6 ML d0 d1 y1 y2
        have SM := Lib.hid (SAME.out w7 C7.out)
        clear SAME
        go_wp2_with fail
        refine (SM.out).mono ?_
        rintro e w8 ⟨rfl, k8⟩
        have C8 := Lib.hid (K45.out.trans (C7.out.trans k8))
        have K8 := Lib.hid (K5.out.trans (C7.out.trans k8))
        have O8 := Lib.hid (own_chg O5.out (C7.out.trans k8) (fun _ _ e => e))
        have LG := Lib.hid (O5.out.lt)
        clear SM C7 K5 M5 O5 K45 O45 k8
        obtain ⟨wo, rfl⟩ : ∃ wo : World, wo = wr := ⟨_, rfl⟩
        go_wp2
        go_loopw [81] (fun iv wr => ∃ k : Nat, k ≤ H.length ∧ iv = .int .i64 k ∧ Hid (Chg (fun x => (Value.slice lg H.length cg).ownBlock = some x) w8 wr ∧ ∃ xs, wr.ownsRow w4.heap.size 32 2 (.slice lg H.length cg) H.length xs)) (fun iv _ => H.length - (intOf iv).toNat)
        case atStart => exact ⟨0, by omega, rfl, Lib.hid ⟨Chg.refl _ _, _, O8.out⟩⟩
        case round =>
          obtain ⟨k, hk, rfl, HR⟩ := hrel
          by_cases hlt : k < H.length
          · obtain ⟨hc, xs, ho⟩ := HR.out
            obtain ⟨g, rfl⟩ := own_some ho (by omega)
            have c0 := ho.cellAt (k * 2) (by omega)
            have hxl := ho.1
            rw [List.getElem?_eq_getElem (by omega)] at c0
            generalize xs[k * 2] = u at c0
            have f0 := ho.frozenAt (k * 2)
            have ST := Lib.hid (ho.stored (k * 2) (.int .i64 99))
            have HC := Lib.hid hc
            clear HR ho hxl hc
            go_wp2
            go_roundw
            case rel => exact ⟨k + 1, by omega, by go_num, Lib.hid ⟨HC.out.grown ST.out.2 (fun x hx _ => hx), _, ST.out.1⟩⟩
            case measure => simp [intOf]; omega
          · obtain rfl : k = H.length := by omega
            obtain ⟨hc, xs, ho⟩ := HR.out
            have C9 := Lib.hid (show Chg (fun x => (Value.slice lg H.length cg).ownBlock = some x) w4 wr from (C8.out.mono (fun _ _ e => e.elim)).trans hc)
            have K9 := Lib.hid (show Chg (fun _ => False) w wr from K8.out.next hc (fun k hk e => by have := (LG.out k e).1; have := K24.out.size; omega))
            have M9 := Lib.hid (M4.out.chgS C9.out (fun k _ hk e => by have := (LG.out k e).1; omega))
            have O9 := Lib.hid (own_chg O4.out C9.out (fun k hk e => by have h1 := (O4.out.lt k hk).2; have := (LG.out k e).1; omega))
            have AL := Lib.hid (all_any wr w2.heap.size B cs (lists l) s (by rw [lists_length]; exact M9.out) hs4 (by rw [lists_length]; omega))
            rw [HH.out] at AL
            clear hc ho HR C9 M9 K8 C8 O8
            go_wp2_with fail
            refine (AL.out).mono ?_
            rintro e w10 ⟨vz, rfl, o10, k10⟩
            have SN := Lib.hid (same_true w10 _ _ H _ _ (hitsAt_own o10) (hitsAt_own (own_chg O9.out k10 (fun _ _ e => e))))
            have KA := Lib.hid (K9.out.trans k10)
            clear AL o10 k10
            go_wp2_with fail
            refine (SN.out).mono ?_
            rintro e w11 ⟨rfl, k11⟩
            have KB := Lib.hid (KA.out.trans k11)
            clear k11
            go_wp2
            go_ret
            exact ⟨rfl, KB.out⟩
end Go.Proofs.Ytiidagdapckgjaa
