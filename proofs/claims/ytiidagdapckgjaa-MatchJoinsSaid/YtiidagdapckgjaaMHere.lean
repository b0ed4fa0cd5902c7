/-
  Package match: here.
-/
import Derived.Test.YtiidagdapckgjaaMPure2
import Derived.Laws.AppendOwnNone
namespace Go.Proofs.Ytiidagdapckgjaa
open Go.RowKit Go.Maps

theorem drop_take_succ (l : List UInt8) {place j : Nat} (h : place + j < alen l) : ((atoms l).drop place).take (j + 1) = ((atoms l).drop place).take j ++ [atomAt l (place + j)] := by
  have hl : j < ((atoms l).drop place).length := by rw [List.length_drop, atoms_length]; omega
  rw [List.take_succ_eq_append_getElem hl]
  congr 2
  have := atoms_get l h
  rw [List.getElem_drop]
  rw [List.getElem?_eq_getElem (by rw [atoms_length]; exact h)] at this
  exact Option.some.inj this
theorem drop_len (l : List UInt8) (place : Nat) : ((atoms l).drop place).length = alen l - place := by rw [List.length_drop, atoms_length]

/-- 'append(s, x...)': both lie in rows that are owned, or are nil. -/
theorem wpList_join {P : Program} {w : World} {ops : Array Oper} {rest : List Oper} {o : Oper} {a : Act} {Q : Exit → Act → World → Prop} (hgd : o.guard = none) (s x : Operand) (t : TypeId)
    (ho : o.op = .call { callee := .builtin .append, args := #[s, x], argTypes := #[t, t] }) (e : TypeId) (size bytes : Nat) (ht : P.underlying t = some (.slice e)) (hE : ElemInfo P e size bytes)
    (base : Nat) (v : Value) (n : Nat) (xs : List Value) (hs : a.eval s = v) (hown : w.ownsRow base e size v n xs)
    (base2 : Nat) (u : Value) (m : Nat) (ys : List Value) (hx : a.eval x = u) (hu : w.ownsRow base2 e size u m ys) (h1 : ∀ z ∈ ys, z.oneCell' = true)
    (hbytes : (n + m) * bytes ≤ 140737488355328) (h63 : n + m ≤ maxLen) (hbase : base ≤ w.heap.size)
    (h : ∀ v' w', w'.ownsRow base e size v' (n + m) (xs ++ ys) → w.grownBy w' v.ownBlock → wpList P ops Q rest (a.put o.dst v') w') : wpList P ops Q (o :: rest) a w := by
  obtain ⟨i, z, hi, hz, q1, q2, q3, q4⟩ := hE
  have hu0 := hu
  obtain ⟨hl, ⟨rfl, rfl⟩ | ⟨g, cap, cur, rfl, hg, hh, r1, r2, r3, r4⟩⟩ := hu
  · have : ys = [] := List.eq_nil_of_length_eq_zero (by simpa using hl)
    subst this
    refine wpList_append_own_none hgd s x t ho base e i size ht hi v n xs hs hown hx ?_
    exact h v w (by simpa using hown) ⟨rfl, rfl, rfl, Nat.le_refl _, fun _ _ _ => rfl⟩
  · exact wpList_append_own w hgd s x t ho base e i z size bytes ht hi hz q1 q2 q3 q4 v n xs hs hown ⟨g, 0, none⟩ m cap ys hx hl (hu0.cells (g := g) rfl) h1 h63 hbytes hbase (fun v' w' h2 h3 _ => h v' w' h2 h3)
theorem ints_one (l : List Nat) : ∀ v ∈ ints l, v.oneCell' = true := by
  intro v hv; simp [ints] at hv; obtain ⟨c, _, rfl⟩ := hv; rfl
theorem ints_append (a b : List Nat) : ints (a ++ b) = ints a ++ ints b := by unfold ints; rw [List.map_append]
theorem Chg.own {w w1 w2 : World} {v : Value} {e : TypeId} {size n : Nat} {xs : List Value} (h : Chg (fun _ => False) w w1) (ho : w1.ownsRow w.heap.size e size v n xs) (hc : Chg (fun x => v.ownBlock = some x) w1 w2) : Chg (fun _ => False) w w2 :=
  ⟨hc.os.trans h.os, hc.tape.trans h.tape, hc.output.trans h.output, Nat.le_trans h.size hc.size, fun i hi _ => by
    rw [hc.block i (by have := h.size; omega) (fun e => by have := (ho.lt i e).1; omega)]; exact h.block i hi (fun e => e)⟩
set_option maxHeartbeats 4000000 in
set_option maxRecDepth 100000 in
theorem here_any (w : World) (base : Nat) (B : MB) (cs : List (Value × Value)) (L : List (List UInt8)) (s : ByteArray) (place : Nat) (h : MachAt w base B cs (pathsTo L L.length) (whichTo L L.length)) (hs : s.size ≤ 400) (hp : place < alen s.data.toList) (hL : L.length ≤ 110) :
    Calls Try.prog 22 #[.pointer (some ⟨B.b, 0, none⟩), .string s, .int .i64 (place : Int)] w fun e w' => ∃ v, e = .returned v ∧ w'.ownsRow w.heap.size 3 1 v (hereL L s.data.toList place).length (ints (hereL L s.data.toList place)) ∧ Chg (fun _ => False) w w' := by
  have hsl := size_list s
  have LEN := Lib.hid (fun w => wlen_any w s (by unfold maxLen; omega))
  have AT := Lib.hid (fun w k hk => wat_in w s k (by unfold maxLen; omega) hk)
  have hn2 : alen s.data.toList ≤ 200 := by unfold alen; omega
  have TK := Lib.hid (fun j hj => drop_take_succ s.data.toList (place := place) (j := j) hj)
  have AL := Lib.hid (drop_len s.data.toList place)
  have ALT := Lib.hid (fun k => atomAt_lt s.data.toList k)
  have FIN := Lib.hid (fun j hj hq => here_end L s.data.toList place j hj hq)
  have ACL := Lib.hid (fun j hj => accTo_length L L.length ((atoms s.data.toList).drop place) j hj)
  have HT := Lib.hid (tree_pathsTo L L.length)
  have H := Lib.hid h
  have hpl := pathsTo_length L L.length
  clear hs hsl h
  generalize hereL L s.data.toList place = res at *
  generalize (atoms s.data.toList).drop place = A at *
  generalize pathsTo L L.length = P at *
  generalize whichTo L L.length = wh at *
  generalize alen s.data.toList = n at *
  go_enter Try.func22, Try.ntmps22
  go_wp2
  go_loopw [7, 8, 9] (fun lv av iv wr => ∃ j : Nat, place + j ≤ n ∧ iv = .int .i64 ((place + j : Nat) : Int) ∧ Hid (A.take j ∈ P) ∧ av = .int .i64 ((P.idxOf (A.take j) : Nat) : Int) ∧ wr.ownsRow w.heap.size 3 1 lv (accTo wh A j).length (ints (accTo wh A j)) ∧ Chg (fun _ => False) w wr) (fun _ _ iv _ => n - (intOf iv).toNat)
  case atStart =>
    refine ⟨0, by omega, rfl, Lib.hid (by rw [List.take_zero]; exact HT.out.mem_nil), ?_, World.ownsRow_nil _ _ _ _, Chg.refl _ _⟩
    rw [List.take_zero]
    have e0 : P.idxOf [] = 0 := by
      cases P with
      | nil => rfl
      | cons a r => have := HT.out.root; simp at this; subst this; simp
    rw [e0]; rfl
  case round =>
    obtain ⟨j, hj, rfl, PM, rfl, ho, hc⟩ := hrel
    have HO := Lib.hid ho
    have HC := Lib.hid hc
    have acl := ACL.out j (by rw [AL.out]; omega)
    clear ho hc
    by_cases hlt : place + j < n
    · have hM := H.out.chg HC.out
      have TK1 := Lib.hid (TK.out j hlt)
      have hak := ALT.out (place + j)
      obtain ⟨i0, hi0⟩ : ∃ i0 : Nat, place + j = i0 := ⟨_, rfl⟩
      rw [hi0] at hlt hak TK1 ⊢
      have HI0 := Lib.hid hi0
      generalize hav : atomAt s.data.toList i0 = ak at *
      have HP := Lib.hid (getIdx PM.out)
      obtain ⟨ix, hix⟩ : ∃ ix, P.idxOf (A.take j) = ix := ⟨_, rfl⟩
      rw [hix] at HP ⊢
      have hixl : ix < P.length := by rw [← hix]; exact List.idxOf_lt_length_of_mem PM.out
      clear hix hi0
      obtain ⟨c, hcc⟩ : ∃ c, cs[ix]? = some c := ⟨_, List.getElem?_eq_getElem (by rw [hM.len]; exact hixl)⟩
      obtain ⟨mv, vv⟩ := c
      have HCC := Lib.hid hcc
      have hcl : ix < cs.length := by rw [hM.len]; exact hixl
      have cb : wr.cell? ⟨B.b, 0, none⟩ = some (.slice (some ⟨B.g, 0, none⟩) cs.length B.cap) := cell_of hM.hb rfl
      have cm : wr.cell? ⟨B.g, ix * 2, none⟩ = some mv := (hM.mcell hcc).1
      have HM := Lib.hid hM
      have CLEN := Lib.hid hM.len
      clear hM hcc
      have b1 : (0 : Int) ≤ (ix : Int) := by omega
      have b2 : (ix : Int) < (cs.length : Int) := by omega
      go_wp2_with fail
      refine (LEN.out wr).mono ?_
      rintro e w' ⟨rfl, rfl⟩
      go_wp2_with fail
      refine wp_region_plan (N := 50) [.rd [0, 1, 2, 3, 4, 5, 6, 7, 8, 9], .ef 10, .ef 11, .rd [12, 13, 14, 15, 16]] (fun w' => w'.cell? ⟨B.b, 0, none⟩ = some (.slice (some ⟨B.g, 0, none⟩) cs.length B.cap) ∧ w'.cell? ⟨B.g, ix * 2, none⟩ = some mv) (by kernel_rfl) (by kernel_rfl) (by kernel_rfl) (by kernel_rfl) (Nat.le_of_ble_eq_true rfl) ⟨cb, cm⟩ ?_
      refine plan_rd (A := ?A1) ?h1 ?h2
      case h1 =>
        intro w' hS K hK
        obtain ⟨s1, s2⟩ := hS
        simp only [opsAt, List.filterMap_cons, List.filterMap_nil, List.getElem?_toArray, List.getElem?_cons_succ, List.getElem?_cons_zero]
        repeat still_step
        refine wpStill_nil ?_
        exact hK
      clear cb cm
      refine plan_ef rfl ?_
      go_wp2_with fail
      refine (AT.out _ i0 hlt).mono ?_
      rintro e w2 ⟨rfl, c2⟩
      rw [hav]
      have M2 := Lib.hid (HM.out.chg ((chg_drew (fun _ => False) wr).trans c2))
      have C2 := Lib.hid (HC.out.trans ((chg_drew (fun _ => False) wr).trans c2))
      have O2 := Lib.hid (own_chg HO.out ((chg_drew (fun _ => False) wr).trans c2) (fun _ _ e => e))
      clear c2 HM HC HO hav
      have cb : w2.cell? ⟨B.b, 0, none⟩ = some (.slice (some ⟨B.g, 0, none⟩) cs.length B.cap) := cell_of M2.out.hb rfl
      have cm : w2.cell? ⟨B.g, ix * 2, none⟩ = some mv := (M2.out.mcell HCC.out).1
      have EM := Lib.hid (M2.out.em ix _ _ HP.out HCC.out)
      go_wp2_with fail
      first | refine ⟨⟨cb, cm⟩, ?_⟩ | skip
      refine plan_ef rfl ?_
      refine wpList_edge rfl (.tmp 27) (.tmp 30) rfl base P.length mv (edges P (A.take j)) rfl EM.out ak hak rfl ?_
      intro c hc
      by_cases hin : A.take j ++ [ak] ∈ P
      · have he : edges P (A.take j) ak = some (P.idxOf (A.take j ++ [ak])) := by unfold edges; rw [if_pos hin]
        have hc' := hc _ he
        subst hc'
        rw [he]
        clear hc he
        go_wp2_with fail
        refine ⟨⟨cb, cm⟩, ?_⟩
        refine plan_rd (A := ?A2) ?h3 ?h4
        case h3 =>
          intro w' hS K hK
          clear hS
          simp only [opsAt, List.filterMap_cons, List.filterMap_nil, List.getElem?_toArray, List.getElem?_cons_succ, List.getElem?_cons_zero]
          repeat still_step
          refine wpStill_nil ?_
          exact hK
        refine plan_nil ?_
        rw [← TK1.out]
        have hin' := hin
        rw [← TK1.out] at hin'
        have PM2 := Lib.hid hin'
        clear hin hin' cb cm EM HCC HP hcl b1 b2
        have HP := Lib.hid (getIdx PM2.out)
        obtain ⟨ix2, hix⟩ : ∃ ix2, P.idxOf (A.take (j + 1)) = ix2 := ⟨_, rfl⟩
        rw [hix] at HP ⊢
        have hixl : ix2 < P.length := by rw [← hix]; exact List.idxOf_lt_length_of_mem PM2.out
        have HIX := Lib.hid hix
        clear hix
        obtain ⟨c, hcc⟩ : ∃ c, cs[ix2]? = some c := ⟨_, List.getElem?_eq_getElem (by rw [CLEN.out]; exact hixl)⟩
        obtain ⟨mv2, vv2⟩ := c
        have hcl : ix2 < cs.length := by rw [CLEN.out]; exact hixl
        have cb : w2.cell? ⟨B.b, 0, none⟩ = some (.slice (some ⟨B.g, 0, none⟩) cs.length B.cap) := cell_of M2.out.hb rfl
        have cw : w2.cell? ⟨B.g, ix2 * 2 + 1, none⟩ = some vv2 := (M2.out.mcell hcc).2
        have EW := Lib.hid (M2.out.ew ix2 _ _ HP.out hcc)
        have AC1 := Lib.hid (show accTo wh A (j + 1) = accTo wh A j ++ wh (A.take (j + 1)) from rfl)
        have acl2 := ACL.out (j + 1) (by rw [AL.out]; have := HI0.out; omega)
        rw [AC1.out, List.length_append] at acl2
        have hsz := C2.out.size
        clear hcc
        go_wp2_with (at_builtin; refine wpList_join rfl (.tmp 37) (.tmp 45) 52 rfl 3 1 8 Try.underlying52 Try.elemInt w.heap.size _ _ _ rfl O2.out base _ _ _ rfl EW.out (ints_one _) ?c1 ?c2 ?c3 ?next)
        case c1 => omega
        case c2 => unfold maxLen; omega
        case next =>
          intro v5 w5 o5 g5
          have C5 := Lib.hid (C2.out.own O2.out (Chg.of_grown g5))
          rw [← ints_append, ← AC1.out, ← List.length_append, ← AC1.out] at o5
          have O5 := Lib.hid o5
          clear o5 g5
          go_wp2
          go_roundw
          case rel => exact ⟨j + 1, by have := HI0.out; omega, by rw [show place + (j + 1) = i0 + 1 from by have := HI0.out; omega]; go_num, PM2, by rw [HIX.out], O5.out, C5.out⟩
          case measure => simp [intOf]; omega
      · have he : edges P (A.take j) ak = none := by unfold edges; rw [if_neg hin]
        rw [he]
        clear hc he
        have FN := Lib.hid (FIN.out j (by rw [AL.out]; omega) (.inr (by rw [TK1.out]; exact hin)))
        have LR := Lib.hid (show (accTo wh A j).length = res.length by rw [← FN.out, sorted_length])
        go_wp2_with fail
        refine ⟨⟨cb, cm⟩, ?_⟩
        refine plan_rd (A := ?A5) ?h5 ?h6
        case h5 =>
          intro w' hS K hK
          clear hS
          simp only [opsAt, List.filterMap_cons, List.filterMap_nil, List.getElem?_toArray, List.getElem?_cons_succ, List.getElem?_cons_zero]
          repeat still_step
          refine wpStill_nil ?_
          exact hK
        refine plan_nil ?_
        have SORT := Lib.hid (sort_own w2 w.heap.size _ _ O2.out (by omega))
        go_wp2_with fail
        refine (SORT.out).mono ?_
        rintro e w9 ⟨rfl, o9, c9⟩
        have C9 := Lib.hid (C2.out.own O2.out c9)
        rw [FN.out] at o9
        have O9 := Lib.hid o9
        clear o9 c9
        go_wp2
        go_ret
        exact ⟨_, rfl, by rw [← LR.out]; exact O9.out, C9.out⟩
    · have FN := Lib.hid (FIN.out j (by rw [AL.out]; omega) (.inl (by rw [AL.out]; omega)))
      have LR := Lib.hid (show (accTo wh A j).length = res.length by rw [← FN.out, sorted_length])
      obtain ⟨i0, hi0⟩ : ∃ i0 : Nat, place + j = i0 := ⟨_, rfl⟩
      rw [hi0] at hlt ⊢
      clear hi0
      have hd : decide (i0 < n) = false := by rw [decide_eq_false_iff_not]; exact hlt
      have SORT := Lib.hid (sort_own wr w.heap.size _ _ HO.out (by omega))
      go_wp2_with fail
      refine (LEN.out wr).mono ?_
      rintro e w' ⟨rfl, rfl⟩
      go_wp2_with fail
      refine (SORT.out).mono ?_
      rintro e w9 ⟨rfl, o9, c9⟩
      have C9 := Lib.hid (HC.out.own HO.out c9)
      rw [FN.out] at o9
      have O9 := Lib.hid o9
      clear o9 c9
      go_wp2
      go_ret
      exact ⟨_, rfl, by rw [← LR.out]; exact O9.out, C9.out⟩
end Go.Proofs.Ytiidagdapckgjaa
