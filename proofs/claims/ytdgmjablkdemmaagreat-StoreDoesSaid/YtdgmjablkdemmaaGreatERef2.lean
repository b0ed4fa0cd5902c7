/-
  The reference's store: Valid, About, Certs.
-/
import Derived.Test.YtdgmjablkdemmaaGreatEPlain
import Derived.Test.YtdgmjablkdemmaaGreatESame
import Derived.Test.YtdgmjablkdemmaaGreatSSetG
namespace Go.Proofs.YtdgmjablkdemmaaGreat
open Go.RowKit Go.Maps

set_option maxHeartbeats 2000000 in
set_option maxRecDepth 100000 in
theorem rvalid_any (w : World) (b : Nat) (R : Nat → Prop) (s : PStore) (t : Int) (h : RefS w b R s) :
    Calls Tryz.prog 17 #[.pointer (some ⟨b, 0, none⟩), .int .i64 t] w fun e w' => ∃ v, e = .returned v ∧ w'.ownsRow w.heap.size 3 1 v (s.which (fun c => holdsB c t)).length (ints (s.which (fun c => holdsB c t))) ∧ Chg (fun _ => False) w w' := by
  have hi := h.inv
  obtain ⟨ca, cc, na, nc, xs, G, h1, hR⟩ := h.open
  have hl200 : s.certs.length ≤ 200 := Nat.le_trans hi.len hi.room2
  have H1 := Lib.hid h1
  have c0 : w.cell? ⟨b, 0, none⟩ = _ := cell_of (o := 0) h1.own rfl
  have y := fun (k i : Nat) c (hk : s.certs[k]? = some (i, c)) (hq : holdsB c t = true) => which_yes (fun c => holdsB c t) hk hq
  have n := fun (k i : Nat) c (hk : s.certs[k]? = some (i, c)) (hq : holdsB c t = false) => which_no (fun c => holdsB c t) hk hq
  have fin : (s.firsts s.certs.length).which (fun c => holdsB c t) = s.which (fun c => holdsB c t) := by rw [firsts_all]
  have z : (s.firsts 0).which (fun c => holdsB c t) = [] := rfl
  have le : ∀ k, ((s.firsts k).which (fun c => holdsB c t)).length ≤ 200 := fun k => Nat.le_trans (which_len _ _) (by unfold PStore.firsts; simp only; rw [List.length_take]; omega)
  obtain ⟨T, hT⟩ : ∃ T : Nat → List Nat, ∀ k, T k = (s.firsts k).which (fun c => holdsB c t) := ⟨_, fun _ => rfl⟩
  simp only [← hT] at y n z le fin
  rw [← fin]
  have Y := Lib.hid y
  have N := Lib.hid n
  have Z := Lib.hid z
  have LE := Lib.hid le
  have KE := Lib.hid (chg_alloc (fun _ => False) w (.cells #[] 3))
  clear y n z le fin h h1 hi hR hT
  go_enter Tryz.func17, Tryz.ntmps17
  go_wp2
  clear c0
  go_loopw [5, 6] (fun v iv wr => ∃ k : Nat, k ≤ s.certs.length ∧ iv = .int .i64 k ∧ Hid (wr.ownsRow w.heap.size 3 1 v (T k).length (ints (T k)) ∧ Chg (fun _ => False) w wr)) (fun _ iv _ => s.certs.length - (intOf iv).toNat)
  case atStart => exact ⟨0, by omega, rfl, Lib.hid ⟨by rw [Z.out]; exact own_empty _ _ _ _ (Nat.le_refl _), KE.out⟩⟩
  case round =>
    obtain ⟨k, hk, rfl, HI⟩ := hrel
    obtain ⟨av, cv, eb⟩ := own_shape HI.out.1
    subst eb
    have O1 := Lib.hid HI.out.1
    have K1 := Lib.hid HI.out.2
    clear HI
    have tl := LE.out k
    have H2 := Lib.hid (H1.out.chg K1.out (fun _ _ e => e))
    have c0 : wr.cell? ⟨b, 0, none⟩ = _ := cell_of (o := 0) H2.out.own rfl
    by_cases hlt : k < s.certs.length
    · obtain ⟨⟨i, c⟩, hx⟩ : ∃ p, s.certs[k]? = some p := ⟨_, List.getElem?_eq_getElem hlt⟩
      obtain ⟨g, f, sa, sc, rfl, rfl, q7, q0, q1, q2, q3, q4, q5, q6, hc⟩ := H2.out.item hx
      have RH := rholds_any wr c sa c.fr.length sc t
      have TY := Lib.hid (fun (e : holdsB c t = true) => Y.out k i c hx e)
      have TN := Lib.hid (fun (e : holdsB c t = false) => N.out k i c hx e)
      generalize holdsB c t = bq at RH TY TN
      clear hx hc
      obtain ⟨kind, sg, sp, fr, fv, tv, nv⟩ := c
      unfold certV at RH
      simp only at q0 q1 q2 q3 q4 q5 q6 RH
      have RH := Lib.hid RH
      go_wp2_with fail
      (with_reducible refine (RH.out).mono ?_)
      rintro e w3 ⟨rfl, k3⟩
      have K3 := Lib.hid (K1.out.trans k3)
      have O3 := Lib.hid (own_chg O1.out k3 (fun _ _ e => e))
      have H3 := Lib.hid (H1.out.chg K3.out (fun _ _ e => e))
      have d1 : w3.cell? ⟨b, 1, none⟩ = _ := cell_of (o := 1) H3.out.own rfl
      have r7 := cell_chg k3 (fun e => e) q7
      have hs3 := K3.out.size
      clear q0 q1 q2 q3 q4 q5 q6 q7 c0 k3 RH K1 O1 H2
      cases bq with
      | false =>
        have E := Lib.hid (TN.out rfl)
        go_wp2
        go_roundw
        case rel => exact ⟨k + 1, by omega, by go_num, Lib.hid ⟨by rw [E.out]; exact O3.out, K3.out⟩⟩
        case measure => simp [intOf]; omega
      | true =>
        have E := Lib.hid (TY.out rfl)
        go_wp2_with (at_builtin; refine wpList_push rfl (.tmp 26) (.tmp 34) 42 rfl 3 1 8 Tryz.underlying42 Tryz.elemInt w.heap.size _ _ _ rfl (O3.out.alloc _) _ [.int .i64 (i : Int)] 3 (0, 0) rfl (obj_alloc_new _ _) rfl ?a1 ?a2 ?a3 ?a4 ?nx)
        case a1 => intro u hu; simp at hu; subst hu; rfl
        case a2 => omega
        case a3 => unfold maxLen; omega
        case a4 => rw [World.size_alloc]; omega
        intro v5 w5 o5 g5
        obtain ⟨a5, c5, rfl⟩ := own_shape o5
        have kk := (chg_alloc (fun j => (Value.slice av (T k).length cv).ownBlock = some j) w3 (.cells #[.int .i64 (i : Int)] 3)).grown g5 (fun j hj _ => hj)
        have O5 := Lib.hid (show w5.ownsRow w.heap.size 3 1 (.slice a5 ((T k).length + 1) c5) (T (k + 1)).length (ints (T (k + 1))) from by
          rw [E.out, List.length_append]
          simpa [ints] using o5)
        have K5 := Lib.hid (K3.out.next kk (fun j hj e => by have := (O3.out.lt j e).1; omega))
        clear kk o5 g5 O3 K3 H3
        go_wp2
        go_roundw
        case rel => exact ⟨k + 1, by omega, by go_num, Lib.hid ⟨O5.out, K5.out⟩⟩
        case measure => simp [intOf]; omega
    · obtain rfl : k = s.certs.length := by omega
      go_wp2
      go_ret
      exact ⟨_, rfl, O1.out, K1.out⟩
set_option maxHeartbeats 2000000 in
set_option maxRecDepth 100000 in
theorem rabout_any (w : World) (b : Nat) (R : Nat → Prop) (s : PStore) (x : ByteArray) (h : RefS w b R s) :
    Calls Tryz.prog 22 #[.pointer (some ⟨b, 0, none⟩), .string x] w fun e w' => ∃ v, e = .returned v ∧ w'.ownsRow w.heap.size 3 1 v (s.which (fun c => hasB c.fr x)).length (ints (s.which (fun c => hasB c.fr x))) ∧ Chg (fun _ => False) w w' := by
  have hi := h.inv
  obtain ⟨ca, cc, na, nc, xs, G, h1, hR⟩ := h.open
  have hl200 : s.certs.length ≤ 200 := Nat.le_trans hi.len hi.room2
  have H1 := Lib.hid h1
  have c0 : w.cell? ⟨b, 0, none⟩ = _ := cell_of (o := 0) h1.own rfl
  have y := fun (k i : Nat) c (hk : s.certs[k]? = some (i, c)) (hq : hasB c.fr x = true) => which_yes (fun c => hasB c.fr x) hk hq
  have n := fun (k i : Nat) c (hk : s.certs[k]? = some (i, c)) (hq : hasB c.fr x = false) => which_no (fun c => hasB c.fr x) hk hq
  have fin : (s.firsts s.certs.length).which (fun c => hasB c.fr x) = s.which (fun c => hasB c.fr x) := by rw [firsts_all]
  have z : (s.firsts 0).which (fun c => hasB c.fr x) = [] := rfl
  have le : ∀ k, ((s.firsts k).which (fun c => hasB c.fr x)).length ≤ 200 := fun k => Nat.le_trans (which_len _ _) (by unfold PStore.firsts; simp only; rw [List.length_take]; omega)
  obtain ⟨T, hT⟩ : ∃ T : Nat → List Nat, ∀ k, T k = (s.firsts k).which (fun c => hasB c.fr x) := ⟨_, fun _ => rfl⟩
  simp only [← hT] at y n z le fin
  rw [← fin]
  have Y := Lib.hid y
  have N := Lib.hid n
  have Z := Lib.hid z
  have LE := Lib.hid le
  have KE := Lib.hid (chg_alloc (fun _ => False) w (.cells #[] 3))
  clear y n z le fin h h1 hi hR hT
  go_enter Tryz.func22, Tryz.ntmps22
  go_wp2
  clear c0
  go_loopw [5, 6] (fun v iv wr => ∃ k : Nat, k ≤ s.certs.length ∧ iv = .int .i64 k ∧ Hid (wr.ownsRow w.heap.size 3 1 v (T k).length (ints (T k)) ∧ Chg (fun _ => False) w wr)) (fun _ iv _ => s.certs.length - (intOf iv).toNat)
  case atStart => exact ⟨0, by omega, rfl, Lib.hid ⟨by rw [Z.out]; exact own_empty _ _ _ _ (Nat.le_refl _), KE.out⟩⟩
  case round =>
    obtain ⟨k, hk, rfl, HI⟩ := hrel
    obtain ⟨av, cv, eb⟩ := own_shape HI.out.1
    subst eb
    have O1 := Lib.hid HI.out.1
    have K1 := Lib.hid HI.out.2
    clear HI
    have tl := LE.out k
    have H2 := Lib.hid (H1.out.chg K1.out (fun _ _ e => e))
    have c0 : wr.cell? ⟨b, 0, none⟩ = _ := cell_of (o := 0) H2.out.own rfl
    by_cases hlt : k < s.certs.length
    · obtain ⟨⟨i, c⟩, hx⟩ : ∃ p, s.certs[k]? = some p := ⟨_, List.getElem?_eq_getElem hlt⟩
      obtain ⟨g, f, sa, sc, rfl, rfl, q7, q0, q1, q2, q3, q4, q5, q6, hc⟩ := H2.out.item hx
      have RH := rhas_any wr (.slice sa c.fr.length sc) G c.fr x hc.set.at_
      have TY := Lib.hid (fun (e : hasB c.fr x = true) => Y.out k i c hx e)
      have TN := Lib.hid (fun (e : hasB c.fr x = false) => N.out k i c hx e)
      generalize hasB c.fr x = bq at RH TY TN
      clear hx hc
      obtain ⟨kind, sg, sp, fr, fv, tv, nv⟩ := c
      skip
      simp only at q0 q1 q2 q3 q4 q5 q6 RH
      have RH := Lib.hid RH
      go_wp2_with fail
      (with_reducible refine (RH.out).mono ?_)
      rintro e w3 ⟨rfl, hw3⟩
      have k3 : Chg (fun _ => False) wr w3 := hw3 ▸ Chg.refl _ _
      clear hw3
      have K3 := Lib.hid (K1.out.trans k3)
      have O3 := Lib.hid (own_chg O1.out k3 (fun _ _ e => e))
      have H3 := Lib.hid (H1.out.chg K3.out (fun _ _ e => e))
      have d1 : w3.cell? ⟨b, 1, none⟩ = _ := cell_of (o := 1) H3.out.own rfl
      have r7 := cell_chg k3 (fun e => e) q7
      have hs3 := K3.out.size
      clear q0 q1 q2 q3 q4 q5 q6 q7 c0 k3 RH K1 O1 H2
      cases bq with
      | false =>
        have E := Lib.hid (TN.out rfl)
        go_wp2
        go_roundw
        case rel => exact ⟨k + 1, by omega, by go_num, Lib.hid ⟨by rw [E.out]; exact O3.out, K3.out⟩⟩
        case measure => simp [intOf]; omega
      | true =>
        have E := Lib.hid (TY.out rfl)
        go_wp2_with (at_builtin; refine wpList_push rfl (.tmp 27) (.tmp 35) 42 rfl 3 1 8 Tryz.underlying42 Tryz.elemInt w.heap.size _ _ _ rfl (O3.out.alloc _) _ [.int .i64 (i : Int)] 3 (0, 0) rfl (obj_alloc_new _ _) rfl ?a1 ?a2 ?a3 ?a4 ?nx)
        case a1 => intro u hu; simp at hu; subst hu; rfl
        case a2 => omega
        case a3 => unfold maxLen; omega
        case a4 => rw [World.size_alloc]; omega
        intro v5 w5 o5 g5
        obtain ⟨a5, c5, rfl⟩ := own_shape o5
        have kk := (chg_alloc (fun j => (Value.slice av (T k).length cv).ownBlock = some j) w3 (.cells #[.int .i64 (i : Int)] 3)).grown g5 (fun j hj _ => hj)
        have O5 := Lib.hid (show w5.ownsRow w.heap.size 3 1 (.slice a5 ((T k).length + 1) c5) (T (k + 1)).length (ints (T (k + 1))) from by
          rw [E.out, List.length_append]
          simpa [ints] using o5)
        have K5 := Lib.hid (K3.out.next kk (fun j hj e => by have := (O3.out.lt j e).1; omega))
        clear kk o5 g5 O3 K3 H3
        go_wp2
        go_roundw
        case rel => exact ⟨k + 1, by omega, by go_num, Lib.hid ⟨O5.out, K5.out⟩⟩
        case measure => simp [intOf]; omega
    · obtain rfl : k = s.certs.length := by omega
      go_wp2
      go_ret
      exact ⟨_, rfl, O1.out, K1.out⟩
def RCertsRes (w : World) (R : Nat → Prop) (cs : List BCert) (e : Ending) (w' : World) : Prop := ∃ v xs, e = .returned v ∧ w'.ownsRow w.heap.size 34 7 v xs.length (ccells xs) ∧ Sets15 w' R xs ∧ xs.map Prod.fst = cs ∧ Chg (fun _ => False) w w'
set_option maxHeartbeats 2000000 in
set_option maxRecDepth 100000 in
theorem rcerts_any (w : World) (b : Nat) (R : Nat → Prop) (s : PStore) (t : Int) (h : RefS w b R s) :
    Calls Tryz.prog 19 #[.pointer (some ⟨b, 0, none⟩), .int .i64 t] w (RCertsRes w R ((s.certs.filter (fun q => holdsB q.2 t)).map Prod.snd)) := by
  have hi := h.inv
  obtain ⟨ca, cc, na, nc, xs, G, h1, hR⟩ := h.open
  have hl200 : s.certs.length ≤ 200 := Nat.le_trans hi.len hi.room2
  have H1 := Lib.hid h1
  have c0 : w.cell? ⟨b, 0, none⟩ = _ := cell_of (o := 0) h1.own rfl
  have y := fun (k i : Nat) c (hk : s.certs[k]? = some (i, c)) (hq : holdsB c t = true) => show ((s.firsts (k + 1)).certs.filter (fun q => holdsB q.2 t)).map Prod.snd = ((s.firsts k).certs.filter (fun q => holdsB q.2 t)).map Prod.snd ++ [c] from by rw [filt_yes (fun c => holdsB c t) hk hq, List.map_append]; rfl
  have n := fun (k i : Nat) c (hk : s.certs[k]? = some (i, c)) (hq : holdsB c t = false) => show ((s.firsts (k + 1)).certs.filter (fun q => holdsB q.2 t)).map Prod.snd = ((s.firsts k).certs.filter (fun q => holdsB q.2 t)).map Prod.snd from by rw [filt_no (fun c => holdsB c t) hk hq]
  have fin : ((s.firsts s.certs.length).certs.filter (fun q => holdsB q.2 t)).map Prod.snd = (s.certs.filter (fun q => holdsB q.2 t)).map Prod.snd := by rw [firsts_all]
  have z : ((s.firsts 0).certs.filter (fun q => holdsB q.2 t)).map Prod.snd = [] := rfl
  have le : ∀ k, (((s.firsts k).certs.filter (fun q => holdsB q.2 t)).map Prod.snd).length ≤ 200 := fun k => by
    rw [List.length_map]
    refine Nat.le_trans (List.length_filter_le _ _) ?_
    unfold PStore.firsts; simp only; rw [List.length_take]; omega
  obtain ⟨T, hT⟩ : ∃ T : Nat → List BCert, ∀ k, T k = ((s.firsts k).certs.filter (fun q => holdsB q.2 t)).map Prod.snd := ⟨_, fun _ => rfl⟩
  simp only [← hT] at y n z le fin
  rw [← fin]
  have HGL := Lib.hid (show ∀ k, G k → k < w.heap.size from fun k hk => by
    obtain ⟨cs, q⟩ := h1.typ k hk
    exact lt_of_obj q)
  have HR := Lib.hid (show ∀ k, G k → R k from fun k hk => hR k (.inr (.inr (.inr hk))))
  have Y := Lib.hid y
  have N := Lib.hid n
  have Z := Lib.hid z
  have LE := Lib.hid le
  have KE := Lib.hid (chg_alloc (fun _ => False) w (.cells #[] 34))
  clear y n z le fin h h1 hi hR hT
  go_enter Tryz.func19, Tryz.ntmps19
  go_wp2
  clear c0
  go_loopw [5, 6] (fun v iv wr => ∃ (k : Nat) (ys : List (BCert × Value)), k ≤ s.certs.length ∧ iv = .int .i64 k ∧ Hid (wr.ownsRow w.heap.size 34 7 v ys.length (ccells ys) ∧ Chg (fun _ => False) w wr ∧ Sets15 wr G ys ∧ ys.map Prod.fst = T k)) (fun _ iv _ => s.certs.length - (intOf iv).toNat)
  case atStart => exact ⟨0, [], by omega, rfl, Lib.hid ⟨own_empty _ _ _ _ (Nat.le_refl _), KE.out, (fun p hp => by cases hp), Z.out.symm⟩⟩
  case round =>
    obtain ⟨k, ys, hk, rfl, HI⟩ := hrel
    obtain ⟨av, cv, eb⟩ := own_shape HI.out.1
    subst eb
    have O1 := Lib.hid HI.out.1
    have K1 := Lib.hid HI.out.2.1
    have S1 := Lib.hid HI.out.2.2.1
    have M1 := Lib.hid HI.out.2.2.2
    clear HI
    have tl : ys.length ≤ 200 := by
      have := congrArg List.length M1.out
      rw [List.length_map] at this
      rw [this]
      exact LE.out k
    have H2 := Lib.hid (H1.out.chg K1.out (fun _ _ e => e))
    have c0 : wr.cell? ⟨b, 0, none⟩ = _ := cell_of (o := 0) H2.out.own rfl
    by_cases hlt : k < s.certs.length
    · obtain ⟨⟨i, c⟩, hx⟩ : ∃ p, s.certs[k]? = some p := ⟨_, List.getElem?_eq_getElem hlt⟩
      obtain ⟨g, f, sa, sc, rfl, rfl, q7, q0, q1, q2, q3, q4, q5, q6, hc⟩ := H2.out.item hx
      have RH := rholds_any wr c sa c.fr.length sc t
      have TY := Lib.hid (fun (e : holdsB c t = true) => Y.out k i c hx e)
      have TN := Lib.hid (fun (e : holdsB c t = false) => N.out k i c hx e)
      generalize holdsB c t = bq at RH TY TN
      clear hx
      have HC := Lib.hid hc
      clear hc
      obtain ⟨kind, sg, sp, fr, fv, tv, nv⟩ := c
      unfold certV at RH
      simp only at q0 q1 q2 q3 q4 q5 q6 RH HC TY
      have RH := Lib.hid RH
      go_wp2_with fail
      (with_reducible refine (RH.out).mono ?_)
      rintro e w3 ⟨rfl, k3⟩
      have K3 := Lib.hid (K1.out.trans k3)
      have O3 := Lib.hid (own_chg O1.out k3 (fun _ _ e => e))
      have H3 := Lib.hid (H1.out.chg K3.out (fun _ _ e => e))
      have d0 : w3.cell? ⟨b, 0, none⟩ = _ := cell_of (o := 0) H3.out.own rfl
      have r0 := cell_chg k3 (fun e => e) q0
      have r1 := cell_chg k3 (fun e => e) q1
      have r2 := cell_chg k3 (fun e => e) q2
      have r3 := cell_chg k3 (fun e => e) q3
      have r4 := cell_chg k3 (fun e => e) q4
      have r5 := cell_chg k3 (fun e => e) q5
      have r6 := cell_chg k3 (fun e => e) q6
      have S3 := Lib.hid (S1.out.chg k3 (fun _ _ e => e))
      have HC3 := Lib.hid (HC.out.chg k3 (fun _ _ e => e))
      have hs3 := K3.out.size
      clear q0 q1 q2 q3 q4 q5 q6 q7 c0 k3 RH K1 O1 H2 S1 HC
      cases bq with
      | false =>
        have E := Lib.hid (TN.out rfl)
        go_wp2
        go_roundw
        case rel => exact ⟨k + 1, ys, by omega, by go_num, Lib.hid ⟨O3.out, K3.out, S3.out, by rw [E.out]; exact M1.out⟩⟩
        case measure => simp [intOf]; omega
      | true =>
        have E := Lib.hid (TY.out rfl)
        go_wp2_with (at_builtin; refine wpList_push rfl (.tmp 26) (.tmp 34) 47 rfl 34 7 80 Tryz.underlying47 Tryz.elemCert w.heap.size _ _ _ rfl (O3.out.alloc _) _ [.int .i64 kind, .int .u16 (sg : Int), .string sp, .slice sa fr.length sc, .int .i64 fv, .int .i64 tv, .int .i64 nv] 34 (0, 0) rfl (obj_alloc_new _ _) rfl ?a1 ?a2 ?a3 ?a4 ?nx)
        case a1 => intro u hu; simp at hu; rcases hu with rfl | rfl | rfl | rfl | rfl | rfl | rfl <;> rfl
        case a2 => omega
        case a3 => unfold maxLen; omega
        case a4 => rw [World.size_alloc]; omega
        intro v5 w5 o5 g5
        obtain ⟨a5, c5, rfl⟩ := own_shape o5
        have kk := (chg_alloc (fun j => (Value.slice av ys.length cv).ownBlock = some j) w3 (.cells #[.int .i64 kind, .int .u16 (sg : Int), .string sp, .slice sa fr.length sc, .int .i64 fv, .int .i64 tv, .int .i64 nv] 34)).grown g5 (fun j hj _ => hj)
        have gno : ∀ j, G j → ¬ (Value.slice av ys.length cv).ownBlock = some j := fun j hj e => by
          have := (O3.out.lt j e).1
          have := HGL.out j hj
          omega
        have O5 := Lib.hid (show w5.ownsRow w.heap.size 34 7 (.slice a5 (ys.length + 1) c5) (ys ++ [((⟨kind, sg, sp, fr, fv, tv, nv⟩ : BCert), Value.slice sa fr.length sc)]).length (ccells (ys ++ [((⟨kind, sg, sp, fr, fv, tv, nv⟩ : BCert), Value.slice sa fr.length sc)])) from by
          rw [ccells_append, List.length_append]
          exact o5)
        have S5 := Lib.hid ((S3.out.chg kk gno).snoc (c := ⟨kind, sg, sp, fr, fv, tv, nv⟩) (HC3.out.chg kk gno))
        have K5 := Lib.hid (K3.out.next kk (fun j hj e => by have := (O3.out.lt j e).1; omega))
        have M5 := Lib.hid (show (ys ++ [((⟨kind, sg, sp, fr, fv, tv, nv⟩ : BCert), Value.slice sa fr.length sc)]).map Prod.fst = T (k + 1) from by
          rw [List.map_append, M1.out, E.out]; rfl)
        clear kk gno o5 g5 O3 K3 H3 S3 HC3
        go_wp2
        go_roundw
        case rel => exact ⟨k + 1, _, by omega, by go_num, Lib.hid ⟨O5.out, K5.out, S5.out, M5.out⟩⟩
        case measure => simp [intOf]; omega
    · obtain rfl : k = s.certs.length := by omega
      go_wp2
      go_ret
      exact ⟨_, ys, rfl, O1.out, S1.out.up HR.out, M1.out, K1.out⟩
end Go.Proofs.YtdgmjablkdemmaaGreat
