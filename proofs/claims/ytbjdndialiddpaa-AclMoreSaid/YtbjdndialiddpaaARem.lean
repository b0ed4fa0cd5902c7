/-
  Package acl: Remove.
-/
import Derived.Test.YtbjdndialiddpaaAAdd
namespace Go.Proofs.Ytbjdndialiddpaa
open Go.RowKit Go.Maps

/-- Nothing is appended. -/
theorem wpList_push0 {P : Program} {w : World} {ops : Array Oper} {rest : List Oper} {o : Oper} {a : Act} {Q : Exit → Act → World → Prop} (hgd : o.guard = none) (s x : Operand) (t : TypeId)
    (ho : o.op = .call { callee := .builtin .append, args := #[s, x], argTypes := #[t, t] }) (e : TypeId) (size bytes : Nat) (ht : P.underlying t = some (.slice e)) (hE : ElemInfo P e size bytes)
    (sa : Option Addr) (n c : Nat) (hs : a.eval s = .slice sa n c) (hn : n ≤ c) (xa : Option Addr) (xc : Nat) (hx : a.eval x = .slice xa 0 xc)
    (h : wpList P ops Q rest (a.put o.dst (.slice sa n c)) w) : wpList P ops Q (o :: rest) a w := by
  obtain ⟨i, z, hi, hz, q1, q2, q3, q4⟩ := hE
  refine wpList_plain hgd fun K hK => ?_
  have hS : Src P i.size t (.slice xa 0 xc) 0 [] w := by
    cases xa with
    | none => exact Src.ofNil w ht xc
    | some ad => exact Src.ofSlice w ht ad 0 xc [] (by simp) (fun j u hj => by simp at hj) (fun u hu => by cases hu)
  have hr := run_append_nothing (P := P) w t t o.type e i ht hi sa n c hn (.slice xa 0 xc) hS
  unfold Oper.wp execOp
  simp only [ho, resolve, invoke, builtin, Sem.run_bind, Sem.run_pure, Result.andThen_ok, List.map_toArray, List.map_cons, List.map_nil, hs, hx, hr]
  exact hK _ _ h
theorem ecells_take (E : List (Int × Value)) (i : Nat) : (ecells E).take (i * 2) = ecells (E.take i) := by
  induction E generalizing i with
  | nil => simp [ecells]
  | cons a t ih =>
    cases i with
    | zero => simp [ecells]
    | succ i =>
      have e : ∀ l, ecells (a :: l) = .int .i64 a.1 :: a.2 :: ecells l := fun l => by unfold ecells; rw [List.flatMap_cons]; rfl
      rw [e, List.take_succ_cons, e, show (i + 1) * 2 = i * 2 + 1 + 1 by omega, List.take_succ_cons, List.take_succ_cons, ih]
theorem ecells_drop (E : List (Int × Value)) (i : Nat) : (ecells E).drop (i * 2) = ecells (E.drop i) := by
  induction E generalizing i with
  | nil => simp [ecells]
  | cons a t ih =>
    cases i with
    | zero => simp
    | succ i =>
      have e : ∀ l, ecells (a :: l) = .int .i64 a.1 :: a.2 :: ecells l := fun l => by unfold ecells; rw [List.flatMap_cons]; rfl
      rw [List.drop_succ_cons, e, show (i + 1) * 2 = i * 2 + 1 + 1 by omega, List.drop_succ_cons, List.drop_succ_cons, ih]
theorem Ents.cut {w : World} {G : Nat → Prop} {E : List (Int × Value)} {L : List BEnt} (h : Ents w G E L) (i j : Nat) : Ents w G (E.take i ++ E.drop j) (L.take i ++ L.drop j) := by
  refine ⟨by simp [h.len], fun k e x q1 q2 => ?_⟩
  rcases Nat.lt_or_ge k (E.take i).length with q | q
  · have q' : k < (L.take i).length := by simp [h.len] at q ⊢; exact q
    rw [List.getElem?_append_left q, List.getElem?_take] at q1
    rw [List.getElem?_append_left q', List.getElem?_take] at q2
    split at q1
    · rename_i hk
      rw [if_pos hk] at q2
      exact h.ent k e x q1 q2
    · cases q1
  · have q' : (L.take i).length ≤ k := by simp [h.len] at q ⊢; exact q
    have hl : (L.take i).length = (E.take i).length := by simp [h.len]
    rw [List.getElem?_append_right q, List.getElem?_drop] at q1
    rw [List.getElem?_append_right q', List.getElem?_drop, hl] at q2
    exact h.ent _ e x q1 q2
theorem erase_cut {L : List BEnt} {x : BEnt} : L.erase x = L.take (L.idxOf x) ++ L.drop (L.idxOf x + 1) := by
  rw [List.erase_eq_eraseIdx_of_idxOf rfl, List.eraseIdx_eq_take_drop_succ]
/-- 'append(l[:i:i], l[i+1:]...)' -/
theorem wpList_cutE {w : World} {ops : Array Oper} {rest : List Oper} {o : Oper} {a : Act} {Q : Exit → Act → World → Prop} (hgd : o.guard = none) (s x : Operand)
    (ho : o.op = .call { callee := .builtin .append, args := #[s, x], argTypes := #[22, 22] })
    (la : Option Addr) (i cap : Nat) (G : Nat → Prop) (L : List BEnt) (hE : EntsAt w (.slice la L.length cap) G L) (hi : i < L.length) (hL : L.length ≤ 1000)
    (hs : a.eval s = .slice la i i) (hx : a.eval x = .slice (if cap = i + 1 then la else Option.map (fun x => x.add ((i + 1) * 2)) la) (L.length - (i + 1)) (cap - (i + 1)))
    (h : ∀ va vc w', EntsAt w' (.slice va (L.take i ++ L.drop (i + 1)).length vc) (fun k => G k ∨ (w.heap.size ≤ k ∧ k < w'.heap.size)) (L.take i ++ L.drop (i + 1)) → Chg (fun _ => False) w w' → wpList Try.prog ops Q rest (a.put o.dst (.slice va (L.take i ++ L.drop (i + 1)).length vc)) w') : wpList Try.prog ops Q (o :: rest) a w := by
  obtain ⟨E, la', cap', e, q1, q2, q3, q4, q5⟩ := hE
  cases e
  have hel : E.length = L.length := q4.len
  have hlen : (L.take i ++ L.drop (i + 1)).length = i + (L.length - (i + 1)) := by rw [List.length_append, List.length_take, List.length_drop]; omega
  obtain ⟨g, oo, rfl⟩ : ∃ g o, la = some ⟨g, o, none⟩ := by
    obtain ⟨e0, he0⟩ : ∃ e0, E[0]? = some e0 := ⟨_, List.getElem?_eq_getElem (by omega)⟩
    obtain ⟨g, o, e1, _⟩ := q5 _ _ (ecells_get E 0 e0 he0).1
    exact ⟨g, o, e1⟩
  by_cases hlast : i + 1 = L.length
  · rw [show L.length - (i + 1) = 0 from by omega] at hx
    refine wpList_push0 hgd s x _ ho 36 2 32 Try.underlying22 Try.elemEntry (some ⟨g, oo, none⟩) i i hs (Nat.le_refl _) _ _ hx ?_
    have hd : L.drop (i + 1) = [] := List.drop_eq_nil_of_le (by omega)
    have := h (some ⟨g, oo, none⟩) i w ?_ (Chg.refl _ _)
    · rw [hlen, show i + (L.length - (i + 1)) = i from by omega] at this
      exact this
    · refine ⟨E.take i, some ⟨g, oo, none⟩, i, rfl, by rw [hlen]; omega, by unfold maxLen; omega, (fun e => by cases e), ?_, fun j u hj => ?_⟩
      · have := (q4.cut i (i + 1)).up (G' := fun k => G k ∨ (w.heap.size ≤ k ∧ k < w.heap.size)) (fun _ h => .inl h)
        rwa [List.drop_eq_nil_of_le (show E.length ≤ i + 1 by omega), List.append_nil] at this
      · rw [← ecells_take, List.getElem?_take] at hj
        split at hj
        · obtain ⟨lb, lo, r1, r2, r3⟩ := q5 j u hj
          exact ⟨lb, lo, r1, .inl r2, r3⟩
        · cases hj
  · rw [if_neg (by omega)] at hx
    simp only [Option.map_some, addr_add] at hx
    refine wpList_pushX hgd s x _ ho 36 2 32 Try.underlying22 Try.elemEntry (some ⟨g, oo, none⟩) i (ecells (E.take i)) hs (by rw [ecells_length, List.length_take]; omega) (fun j u hj => ?_) (fun e => by cases e) g (oo + (i + 1) * 2) (L.length - (i + 1)) _ (ecells (E.drop (i + 1))) hx (by rw [ecells_length, List.length_drop]; omega) (fun j u hj => ?_) (by omega) (fun u hu => ?_) (by omega) (by unfold maxLen; omega) (fun v' w' o6 k6 hs6 => ?_)
    · rw [← ecells_take, List.getElem?_take] at hj
      split at hj
      · obtain ⟨lb, lo, r1, _, r3⟩ := q5 j u hj
        exact ⟨lb, lo, r1, r3⟩
      · cases hj
    · rw [← ecells_drop, List.getElem?_drop] at hj
      obtain ⟨lb, lo, r1, _, r3⟩ := q5 _ u hj
      cases r1
      rw [Nat.add_assoc]; exact r3
    · have h1 := ecells_one q4.one
      rcases List.mem_append.1 hu with q | q
      · rw [← ecells_take] at q; exact h1 u (List.mem_of_mem_take q)
      · rw [← ecells_drop] at q; exact h1 u (List.mem_of_mem_drop q)
    · obtain ⟨va, vc, rfl⟩ := own_shape o6
      have := h va vc w' ?_ k6
      · rw [hlen] at this
        exact this
      · rw [hlen]
        refine entsAt_own (base := w.heap.size) (E := E.take i ++ E.drop (i + 1)) ?_ (((q4.cut i (i + 1)).chg k6 (fun _ _ e => e)).up (fun _ h => .inl h)) (fun k hk => .inr (o6.lt k hk))
        rw [ecells_append, show (E.take i ++ E.drop (i + 1)).length = i + (L.length - (i + 1)) from by rw [List.length_append, List.length_take, List.length_drop]; omega]
        exact o6
set_option maxHeartbeats 4000000 in
set_option maxRecDepth 100000 in
theorem rem_any (w : World) (b : Nat) (ty : TypeId) (x : BEnt) (L : List BEnt) (ver : Nat) (a : Option Addr) (n c : Nat) (G G' : Nat → Prop) (hl : ListAt w b ty G L ver) (hver : ver ≤ 1000000) (hL : L.length ≤ 1000) (hv : SetAt w (.slice a n c) G' x.2) :
    Calls Try.prog 14 #[.pointer (some ⟨b, 0, none⟩), .agg #[.int .i64 x.1, .slice a n c]] w (AddRes w b ty G (remE x L) (remL x L) ver) := by
  obtain ⟨la, cap, h1, h2, hcap, hcm⟩ := hl.open
  have hbl := hl.lt
  unfold maxLen at hcm
  have k1 := chg_alloc (fun _ => False) w (.cells #[.int .i64 x.1, .slice a n c] 36)
  have K1 := Lib.hid k1
  have MAY := Lib.hid (emay_any _ x a n c G' (hv.at_.chg k1 (fun _ _ e => e)))
  have FI := Lib.hid (fun w1 (k : Chg (fun _ => False) w w1) => find_any w1 b ty x L ver a n c G G' (hl.chg k (fun e => e) (fun _ _ e => e)) (hv.at_.chg k (fun _ _ e => e)))
  have X1 := Lib.hid (obj_alloc_new w (.cells #[.int .i64 x.1, .slice a n c] 36))
  have HL := Lib.hid hl
  have H1 := Lib.hid h1
  have H2 := Lib.hid h2
  clear k1 hl hv h1 h2
  cases hm : entB x with
  | false =>
    have R : remE x L = 2 := by unfold remE; rw [hm]; rfl
    have RL : remL x L = L := by unfold remL; rw [R]; rfl
    rw [R, RL]
    rw [hm] at MAY
    clear R RL hm FI
    obtain ⟨op, l⟩ := x
    simp only at MAY K1 ⊢
    go_enter Try.func14, Try.ntmps14
    go_wp2_with fail
    (with_reducible refine (MAY.out).mono ?_)
    rintro e w2 ⟨rfl, k2⟩
    go_wp2
    go_ret
    exact addRes_same HL.out (by omega) (K1.out.trans k2)
  | true =>
    rw [hm] at MAY
    have HM := Lib.hid hm
    clear hm
    by_cases hin : x ∈ L
    · have R : remE x L = 0 := by unfold remE; rw [if_pos HM.out, if_pos hin]
      have RL : remL x L = L.take (L.idxOf x) ++ L.drop (L.idxOf x + 1) := by unfold remL; rw [R, erase_cut]; rfl
      obtain ⟨e1, e2, _⟩ := idxE_in hin
      rw [e1] at FI
      rw [R, RL]
      clear R RL hin e1
      generalize L.idxOf x = i at *
      obtain ⟨op, l⟩ := x
      simp only at MAY K1 FI ⊢
      go_enter Try.func14, Try.ntmps14
      go_wp2_with fail
      (with_reducible refine (MAY.out).mono ?_)
      rintro e w2 ⟨rfl, k2⟩
      have o2 := k2.obj (fun e => e) X1.out
      have d0 : w2.cell? ⟨w.heap.size, 0, none⟩ = some (.int .i64 op) := cell_of o2 rfl
      have d1 : w2.cell? ⟨w.heap.size, 1, none⟩ = some (.slice a n c) := cell_of o2 rfl
      have K2 := Lib.hid (K1.out.trans k2)
      have F2 := Lib.hid (FI.out w2 K2.out)
      clear o2 k2 K1 FI MAY
      go_wp2_with fail
      (with_reducible refine (F2.out).mono ?_)
      rintro e w3 ⟨rfl, k3⟩
      have K3 := Lib.hid (K2.out.trans k3)
      have c0 : w3.cell? ⟨b, 0, none⟩ = some (.slice la L.length cap) := cell_of (K3.out.obj (fun e => e) H1.out) rfl
      have hb3 : w.heap.size ≤ w3.heap.size := K3.out.size
      have q1 : IntKind.i64.wrap ((i : Int) + 1) = (i : Int) + 1 := by rw [IntKind.wrap_i64]; omega
      have q2 : ((i : Int) + 1).toNat = i + 1 := by omega
      have q3 : 0 ≤ (i : Int) + 1 := by omega
      have q4 : (i : Int) + 1 ≤ (L.length : Int) := by omega
      have q5 : i ≤ cap := by omega
      have q6 : (i : Int) ≤ (cap : Int) := by omega
      have q7 : i + 1 ≤ L.length := by omega
      clear k3 K2 F2 d0 d1
      go_wp2_with fail
      refine wp_region_planL (N := 39) [.rd [0, 1, 2, 3, 4, 5, 6, 7, 8, 9, 10, 11, 12, 13, 14], .ef 15, .ef 16, .ef 17, .ef 18] 18 (fun w' => w'.cell? ⟨b, 0, none⟩ = some (.slice la L.length cap)) (by kernel_rfl) (by kernel_rfl) (by kernel_rfl) (by kernel_rfl) (by kernel_rfl) (Nat.le_of_ble_eq_true rfl) c0 ?_
      refine planL_rd (A := ?A1) ?h1 ?h2
      case h1 =>
        rintro w' z0 K hK
        simp only [opsAt, List.filterMap_cons, List.filterMap_nil, List.getElem?_toArray, List.getElem?_cons_succ, List.getElem?_cons_zero]
        repeat still_step
        refine wpStill_nil ?_
        exact hK
      have e0 : w3.drew.cell? ⟨b, 0, none⟩ = some (.slice la L.length cap) := c0
      have KD := Lib.hid (K3.out.drew)
      have E3 := Lib.hid (H2.out.chg KD.out (fun _ _ e => e))
      have hbd : w.heap.size ≤ w3.drew.heap.size := hb3
      clear c0 K3 q1 q2 q3 q4 q5 q6 q7
      generalize w3.drew = wd at *
      refine planL_ef rfl ?_
      refine wpList_cutE rfl (.tmp 21) (.tmp 28) rfl la i cap G L E3.out e2 hL rfl rfl ?_
      intro va vc w6 en6 k6
      have f0 := cell_chg k6 (fun e => e) e0
      have K6 := Lib.hid (KD.out.trans k6)
      have EN6 := Lib.hid en6
      have hb6 : wd.heap.size ≤ w6.heap.size := k6.size
      have B6 := Lib.hid (K6.out.obj (fun e => e) H1.out)
      clear e0 en6 k6 KD E3
      generalize (L.take i ++ L.drop (i + 1)) = L2 at *
      generalize (if cap = i + 1 then la else Option.map (fun x => x.add ((i + 1) * 2)) la) = xa at *
      go_wp2_with fail
      refine ⟨.inr f0, ?_⟩
      refine planL_ef rfl ?_
      go_wp2_with fail
      refine ⟨.inr f0, ?_⟩
      refine planL_ef rfl ?_
      go_wp2_with fail
      refine ⟨.inr f0, ?_⟩
      refine planL_ef rfl ?_
      refine wpList_store_one rfl 22 (.tmp 31) (.tmp 29) rfl b 0 rfl (.slice va L2.length vc) rfl rfl rfl Try.sizeEntries _ f0 (frozen_of B6.out) ?_
      intro w7 hw7
      refine ⟨.inl rfl, planL_nil ?_⟩
      have o7 : w7.heap[b]? = some (.cells #[.slice va L2.length vc, .int .i64 (ver : Int)] ty (0, 0)) := by rw [hw7]; exact obj_setCell B6.out _
      have k7 : Chg (· = b) w6 w7 := by rw [hw7]; exact chg_cell _ _ _ _
      have d1 : w7.cell? ⟨b, 1, none⟩ = some (.int .i64 (ver : Int)) := cell_of o7 rfl
      have fz1 : w7.frozen? ⟨b, 1, none⟩ = false := frozen_of o7
      have FIN := Lib.hid (show AddRes w b ty G 0 L2 ver (.returned (.int .i64 0)) (w7.setCell ⟨b, 1, none⟩ (.int .i64 ((ver : Int) + 1))) from by
        have k8 := k7.trans (chg_cell w7 b 1 (.int .i64 ((ver : Int) + 1)))
        have hw8 : (w7.setCell ⟨b, 1, none⟩ (.int .i64 ((ver : Int) + 1))).heap.size = w6.heap.size := by rw [hw7]; simp [World.setCell]
        refine ⟨rfl, ⟨⟨_, obj_setCell (o := 1) o7 _, ?_⟩, ?_⟩, (K6.out.mono (fun _ _ e => e.elim)).next k8 (fun k hk e => e)⟩
        · have hnb : ∀ k, (G k ∨ (w.heap.size ≤ k ∧ k < w6.heap.size)) → ¬ k = b := fun k h e => by
            rcases h with h | h
            · exact HL.out.out (e ▸ h)
            · omega
          refine EntsAt.chg (S := (· = b)) (w := w6) ?_ k8 ?_
          · rw [hw8]
            exact EN6.out.up (fun k h => h.imp id (fun h => by omega))
          · rw [hw8]; exact hnb
        · intro h
          rcases h with h | h
          · exact HL.out.out h
          · omega)
      clear o7 k7 hw7 f0 EN6 K6 B6
      go_wp2
      go_ret
      exact FIN.out
    · have R : remE x L = 10 := by unfold remE; rw [if_pos HM.out, if_neg hin]
      have RL : remL x L = L := by unfold remL; rw [R]; rfl
      have hi : idxE L x = -1 := if_neg hin
      rw [hi] at FI
      rw [R, RL]
      clear R RL hin hi
      obtain ⟨op, l⟩ := x
      simp only at MAY K1 FI ⊢
      go_enter Try.func14, Try.ntmps14
      go_wp2_with fail
      (with_reducible refine (MAY.out).mono ?_)
      rintro e w2 ⟨rfl, k2⟩
      have o2 := k2.obj (fun e => e) X1.out
      have d0 : w2.cell? ⟨w.heap.size, 0, none⟩ = some (.int .i64 op) := cell_of o2 rfl
      have d1 : w2.cell? ⟨w.heap.size, 1, none⟩ = some (.slice a n c) := cell_of o2 rfl
      have K2 := Lib.hid (K1.out.trans k2)
      have F2 := Lib.hid (FI.out w2 K2.out)
      clear o2 k2 K1 FI MAY
      go_wp2_with fail
      (with_reducible refine (F2.out).mono ?_)
      rintro e w3 ⟨rfl, k3⟩
      go_wp2
      go_ret
      exact addRes_same HL.out (by omega) (K2.out.trans k3)
end Go.Proofs.Ytbjdndialiddpaa
