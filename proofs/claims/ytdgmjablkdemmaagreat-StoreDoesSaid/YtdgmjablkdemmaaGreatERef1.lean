/-
  The reference's store: New, Get, Border.
  The reference's store: Sweep.
-/
import Derived.Test.YtdgmjablkdemmaaGreatEPlain
namespace Go.Proofs.YtdgmjablkdemmaaGreat
open Go.RowKit Go.Maps

set_option maxRecDepth 100000 in
theorem rnew_bad (w : World) (room : Int) (h : ¬ (1 ≤ room ∧ room ≤ 200)) : Calls Tryz.prog 7 #[.int .i64 room] w fun e w' => e = .returned (.pointer none) ∧ w = w' := by
  by_cases h1 : room < 1
  · have e1 : decide (room < 1) = true := decide_eq_true h1
    clear h
    go_enter Tryz.func7, Tryz.ntmps7
    go_wp2
    go_ret
    exact ⟨rfl, rfl⟩
  · have e1 : decide (room < 1) = false := decide_eq_false h1
    have e2 : decide (200 < room) = true := decide_eq_true (by omega)
    clear h
    go_enter Tryz.func7, Tryz.ntmps7
    go_wp2
    go_ret
    exact ⟨rfl, rfl⟩
theorem rnew_made (w : World) (room : Nat) (h1 : 1 ≤ room) (h2 : room ≤ 200) :
    RefS (w.alloc (.cells #[.slice none 0 0, .slice none 0 0, .int .i64 (room : Int), .int .i64 0, .int .i64 0] 53)) w.heap.size (fun k => k = w.heap.size) (newS room) := by
  refine ⟨.slice none 0 0, .slice none 0 0, [], fun _ => False, ⟨obj_alloc_new _ _, rfl, ⟨rfl, .inl ⟨rfl, rfl⟩⟩, ⟨rfl, .inl ⟨rfl, rfl⟩⟩, fun p hp => (by cases hp), fun _ e => e.elim⟩, newS_inv h1 h2, ?_, ?_⟩
  · rintro k (e | e | e | e)
    · exact e
    · cases e
    · cases e
    · exact e.elim
  · rintro k rfl
    rw [World.size_alloc]; omega
set_option maxRecDepth 100000 in
theorem rnew_ok (w : World) (room : Nat) (h1 : 1 ≤ room) (h2 : room ≤ 200) : Calls Tryz.prog 7 #[.int .i64 (room : Int)] w fun e w' => e = .returned (.pointer (some ⟨w.heap.size, 0, none⟩)) ∧ RefS w' w.heap.size (fun k => k = w.heap.size) (newS room) ∧ Chg (fun _ => False) w w' := by
  have e1 : decide ((room : Int) < 1) = false := decide_eq_false (by omega)
  have e2 : decide (200 < (room : Int)) = false := decide_eq_false (by omega)
  have SM := Lib.hid (rnew_made w room h1 h2)
  have KA := Lib.hid (chg_alloc (fun _ => False) w (.cells #[.slice none 0 0, .slice none 0 0, .int .i64 (room : Int), .int .i64 0, .int .i64 0] 53))
  go_enter Tryz.func7, Tryz.ntmps7
  go_wp2
  go_ret
  exact ⟨rfl, SM.out, KA.out⟩
def RGetRes (w : World) (R : Nat → Prop) (g : Option BCert) (e : Ending) (w' : World) : Prop :=
  ((∃ c sa sc, g = some c ∧ e = .returned (.tuple #[certV c (.slice sa c.fr.length sc), .bool true]) ∧ CertAt w' (.slice sa c.fr.length sc) R c) ∨ (g = none ∧ e = .returned (.tuple #[certV zeroC (.slice none 0 0), .bool false]))) ∧ Chg (fun _ => False) w w'
set_option maxHeartbeats 2000000 in
set_option maxRecDepth 100000 in
theorem rget_any (w : World) (b : Nat) (R : Nat → Prop) (s : PStore) (x : Int) (h : RefS w b R s) :
    Calls Tryz.prog 26 #[.pointer (some ⟨b, 0, none⟩), .int .i64 x] w (RGetRes w R (s.get x)) := by
  have hi := h.inv
  obtain ⟨ca, cc, na, nc, xs, G, h1, hR⟩ := h.open
  have hl200 : s.certs.length ≤ 200 := Nat.le_trans hi.len hi.room2
  have ka := chg_alloc (fun _ => False) w (.cells #[.int .i64 0, .int .u16 0, .string ⟨#[]⟩, .slice none 0 0, .int .i64 0, .int .i64 0, .int .i64 0] 34)
  have H1 := Lib.hid (h1.chg ka (fun _ _ e => e))
  have KA := Lib.hid ka
  have YES := Lib.hid (fun (k i : Nat) c (hk : s.certs[k]? = some (i, c)) (e : (i : Int) = x) => show s.get x = some c from by rw [← e]; exact hi.get_mem (List.mem_of_getElem? hk))
  have NOT := Lib.hid (fun (q : ∀ (j i : Nat) c, s.certs[j]? = some (i, c) → (i : Int) ≠ x) => show s.get x = none from by
    cases hg : s.get x with
    | none => rfl
    | some c =>
      obtain ⟨i, e, hm⟩ := get_some hg
      obtain ⟨j, hj⟩ := List.mem_iff_getElem?.1 hm
      exact absurd e.symm (q j i c hj))
  have HGL := Lib.hid (show ∀ k, G k → k < w.heap.size from fun k hk => by
    obtain ⟨cs, q⟩ := h1.typ k hk
    exact lt_of_obj q)
  have HR := Lib.hid (show ∀ k, G k → R k from fun k hk => hR k (.inr (.inr (.inr hk))))
  generalize s.get x = res at *
  have c0 : (w.alloc (.cells #[.int .i64 0, .int .u16 0, .string ⟨#[]⟩, .slice none 0 0, .int .i64 0, .int .i64 0, .int .i64 0] 34)).cell? ⟨b, 0, none⟩ = _ := cell_of (o := 0) H1.out.own rfl
  have c1 : (w.alloc (.cells #[.int .i64 0, .int .u16 0, .string ⟨#[]⟩, .slice none 0 0, .int .i64 0, .int .i64 0, .int .i64 0] 34)).cell? ⟨b, 1, none⟩ = _ := cell_of (o := 1) H1.out.own rfl
  have OA := Lib.hid (obj_alloc_new w (.cells #[.int .i64 0, .int .u16 0, .string ⟨#[]⟩, .slice none 0 0, .int .i64 0, .int .i64 0, .int .i64 0] 34))
  have HZ := Lib.hid (Tryz.zeroCert)
  clear h h1 hi hR ka
  go_enter Tryz.func26, Tryz.ntmps26
  go_wp2
  generalize w.alloc (.cells #[.int .i64 0, .int .u16 0, .string ⟨#[]⟩, .slice none 0 0, .int .i64 0, .int .i64 0, .int .i64 0] 34) = w1 at *
  go_loopw [6] (fun iv wr => ∃ k : Nat, k ≤ s.certs.length ∧ iv = .int .i64 k ∧ Hid ((∀ (j i : Nat) c, j < k → s.certs[j]? = some (i, c) → (i : Int) ≠ x) ∧ w1 = wr)) (fun iv _ => s.certs.length - (intOf iv).toNat)
  case atStart => exact ⟨0, by omega, rfl, Lib.hid ⟨fun j i c hj => by omega, rfl⟩⟩
  case round =>
    obtain ⟨k, hk, rfl, HI⟩ := hrel
    obtain ⟨hno, rfl⟩ := HI.out
    have NO := Lib.hid hno
    clear HI hno
    by_cases hlt : k < s.certs.length
    · obtain ⟨⟨i, c⟩, hx⟩ : ∃ p, s.certs[k]? = some p := ⟨_, List.getElem?_eq_getElem hlt⟩
      obtain ⟨g, f, sa, sc, rfl, rfl, q7, q0, q1, q2, q3, q4, q5, q6, hc⟩ := H1.out.item hx
      by_cases hxi : (i : Int) = x
      · have g1 : ((i : Int) == x) = true := beq_iff_eq.2 hxi
        have RS := Lib.hid (YES.out k i c hx hxi)
        have HC := Lib.hid hc
        clear hxi hx YES NOT hc
        obtain ⟨kind, sg, sp, fr, fv, tv, nv⟩ := c
        simp only at q0 q1 q2 q3 q4 q5 q6 HC
        have q := OA.out
        have d0 : w1.cell? ⟨w.heap.size, 0, none⟩ = some (.int .i64 0) := cell_of q rfl
        have e0 := frozen_of (o := 0) q
        have d1 : w1.cell? ⟨w.heap.size, 1, none⟩ = some (.int .u16 0) := cell_of q rfl
        have e1 := frozen_of (o := 1) q
        have d2 : w1.cell? ⟨w.heap.size, 2, none⟩ = some (.string ⟨#[]⟩) := cell_of q rfl
        have e2 := frozen_of (o := 2) q
        have d3 : w1.cell? ⟨w.heap.size, 3, none⟩ = some (.slice none 0 0) := cell_of q rfl
        have e3 := frozen_of (o := 3) q
        have d4 : w1.cell? ⟨w.heap.size, 4, none⟩ = some (.int .i64 0) := cell_of q rfl
        have e4 := frozen_of (o := 4) q
        have d5 : w1.cell? ⟨w.heap.size, 5, none⟩ = some (.int .i64 0) := cell_of q rfl
        have e5 := frozen_of (o := 5) q
        have d6 : w1.cell? ⟨w.heap.size, 6, none⟩ = some (.int .i64 0) := cell_of q rfl
        have e6 := frozen_of (o := 6) q
        clear q
        go_wp2
        obtain ⟨W, hW⟩ : ∃ W, W = (((((((w1.setCell ⟨w.heap.size, 0, none⟩ (.int .i64 kind)).setCell ⟨w.heap.size, 1, none⟩ (.int .u16 (sg : Int))).setCell ⟨w.heap.size, 2, none⟩ (.string sp)).setCell ⟨w.heap.size, 3, none⟩ (.slice sa fr.length sc)).setCell ⟨w.heap.size, 4, none⟩ (.int .i64 fv)).setCell ⟨w.heap.size, 5, none⟩ (.int .i64 tv)).setCell ⟨w.heap.size, 6, none⟩ (.int .i64 nv)) := ⟨_, rfl⟩
        rw [← hW]
        obtain ⟨ob, k4⟩ := set7 OA.out (.int .i64 kind) (.int .u16 (sg : Int)) (.string sp) (.slice sa fr.length sc) (.int .i64 fv) (.int .i64 tv) (.int .i64 nv) W hW
        clear hW
        have z0 : W.cell? ⟨w.heap.size, 0, none⟩ = some (.int .i64 kind) := cell_of ob rfl
        have z1 : W.cell? ⟨w.heap.size, 1, none⟩ = some (.int .u16 (sg : Int)) := cell_of ob rfl
        have z2 : W.cell? ⟨w.heap.size, 2, none⟩ = some (.string sp) := cell_of ob rfl
        have z3 : W.cell? ⟨w.heap.size, 3, none⟩ = some (.slice sa fr.length sc) := cell_of ob rfl
        have z4 : W.cell? ⟨w.heap.size, 4, none⟩ = some (.int .i64 fv) := cell_of ob rfl
        have z5 : W.cell? ⟨w.heap.size, 5, none⟩ = some (.int .i64 tv) := cell_of ob rfl
        have z6 : W.cell? ⟨w.heap.size, 6, none⟩ = some (.int .i64 nv) := cell_of ob rfl
        refine bodyPost_ret (v := .tuple #[.agg #[.int .i64 kind, .int .u16 (sg : Int), .string sp, .slice sa fr.length sc, .int .i64 fv, .int .i64 tv, .int .i64 nv], .bool true]) (by simp [results, Tryz.results26, go_sem, z0, z1, z2, z3, z4, z5, z6]) rfl ?_
        exact ⟨.inl ⟨_, _, _, RS.out, rfl, (HC.out.chg k4 (fun k hk e => by have := HGL.out k hk; omega)).up15 HR.out⟩, KA.out.next k4 (fun k hk e => by omega)⟩
      · have g1 : ((i : Int) == x) = false := beq_eq_false_iff_ne.2 hxi
        have N2 := Lib.hid (show ∀ (j i : Nat) c, j < k + 1 → s.certs[j]? = some (i, c) → (i : Int) ≠ x from fun j i' c' hj hy => by
          rcases Nat.lt_or_ge j k with q | q
          · exact NO.out j i' c' q hy
          · obtain rfl : j = k := by omega
            rw [hx] at hy; cases hy; exact hxi)
        clear hxi hx q0 q1 q2 q3 q4 q5 q6 hc
        go_wp2
        go_roundw
        case rel => exact ⟨k + 1, by omega, by go_num, Lib.hid ⟨N2.out, by first | trivial | rfl⟩⟩
        case measure => simp [intOf]; omega
    · obtain rfl : k = s.certs.length := by omega
      have RS := Lib.hid (NOT.out (fun j i c hj => NO.out j i c (List.getElem?_eq_some_iff.1 hj).1 hj))
      clear YES NOT
      have q := OA.out
      have d0 : w1.cell? ⟨w.heap.size, 0, none⟩ = some (.int .i64 0) := cell_of q rfl
      have e0 := frozen_of (o := 0) q
      have d1 : w1.cell? ⟨w.heap.size, 1, none⟩ = some (.int .u16 0) := cell_of q rfl
      have e1 := frozen_of (o := 1) q
      have d2 : w1.cell? ⟨w.heap.size, 2, none⟩ = some (.string ⟨#[]⟩) := cell_of q rfl
      have e2 := frozen_of (o := 2) q
      have d3 : w1.cell? ⟨w.heap.size, 3, none⟩ = some (.slice none 0 0) := cell_of q rfl
      have e3 := frozen_of (o := 3) q
      have d4 : w1.cell? ⟨w.heap.size, 4, none⟩ = some (.int .i64 0) := cell_of q rfl
      have e4 := frozen_of (o := 4) q
      have d5 : w1.cell? ⟨w.heap.size, 5, none⟩ = some (.int .i64 0) := cell_of q rfl
      have e5 := frozen_of (o := 5) q
      have d6 : w1.cell? ⟨w.heap.size, 6, none⟩ = some (.int .i64 0) := cell_of q rfl
      have e6 := frozen_of (o := 6) q
      clear q
      go_wp2
      obtain ⟨W, hW⟩ : ∃ W, W = (((((((w1.setCell ⟨w.heap.size, 0, none⟩ (.int .i64 0)).setCell ⟨w.heap.size, 1, none⟩ (.int .u16 0)).setCell ⟨w.heap.size, 2, none⟩ (.string ⟨#[]⟩)).setCell ⟨w.heap.size, 3, none⟩ (.slice none 0 0)).setCell ⟨w.heap.size, 4, none⟩ (.int .i64 0)).setCell ⟨w.heap.size, 5, none⟩ (.int .i64 0)).setCell ⟨w.heap.size, 6, none⟩ (.int .i64 0)) := ⟨_, rfl⟩
      rw [← hW]
      obtain ⟨ob, k4⟩ := set7 OA.out (.int .i64 0) (.int .u16 0) (.string ⟨#[]⟩) (.slice none 0 0) (.int .i64 0) (.int .i64 0) (.int .i64 0) W hW
      clear hW
      have z0 : W.cell? ⟨w.heap.size, 0, none⟩ = some (.int .i64 0) := cell_of ob rfl
      have z1 : W.cell? ⟨w.heap.size, 1, none⟩ = some (.int .u16 0) := cell_of ob rfl
      have z2 : W.cell? ⟨w.heap.size, 2, none⟩ = some (.string ⟨#[]⟩) := cell_of ob rfl
      have z3 : W.cell? ⟨w.heap.size, 3, none⟩ = some (.slice none 0 0) := cell_of ob rfl
      have z4 : W.cell? ⟨w.heap.size, 4, none⟩ = some (.int .i64 0) := cell_of ob rfl
      have z5 : W.cell? ⟨w.heap.size, 5, none⟩ = some (.int .i64 0) := cell_of ob rfl
      have z6 : W.cell? ⟨w.heap.size, 6, none⟩ = some (.int .i64 0) := cell_of ob rfl
      refine bodyPost_ret (v := .tuple #[.agg #[.int .i64 0, .int .u16 0, .string ⟨#[]⟩, .slice none 0 0, .int .i64 0, .int .i64 0, .int .i64 0], .bool false]) (by simp [results, Tryz.results26, go_sem, z0, z1, z2, z3, z4, z5, z6]) rfl ?_
      exact ⟨.inr ⟨RS.out, rfl⟩, KA.out.next k4 (fun k hk e => by omega)⟩
set_option maxHeartbeats 4000000 in
set_option maxRecDepth 100000 in
theorem rborder_any (w : World) (b : Nat) (R : Nat → Prop) (s : PStore) (t : Int) (h : RefS w b R s) :
    Calls Tryz.prog 15 #[.pointer (some ⟨b, 0, none⟩), .int .i64 t] w (NextRes w s t) := by
  have hi := h.inv
  obtain ⟨ca, cc, na, nc, xs, G, h1, hR⟩ := h.open
  have hl200 : s.certs.length ≤ 200 := Nat.le_trans hi.len hi.room2
  have H1 := Lib.hid h1
  have c0 : w.cell? ⟨b, 0, none⟩ = _ := cell_of (o := 0) h1.own rfl
  have MAY := Lib.hid (fun (k i : Nat) c (hk : s.certs[k]? = some (i, c)) => certB_may (hi.ok _ (List.mem_of_getElem? hk)))
  have SM := Lib.hid (fun (k i : Nat) c (hk : s.certs[k]? = some (i, c)) => @borders_succ s k i c hk)
  have FIN := Lib.hid (firsts_all s)
  have Z := Lib.hid (show ∀ x, ¬ Borders (s.firsts 0) x from fun x ⟨q, hq, _⟩ => by simp [PStore.firsts] at hq)
  clear h h1 hi hR
  go_enter Tryz.func15, Tryz.ntmps15
  go_wp2
  go_loopw [6, 7, 8] (fun nv fv iv wr => ∃ (k : Nat) (n : Int) (is : Bool), k ≤ s.certs.length ∧ nv = .int .i64 n ∧ fv = .bool is ∧ iv = .int .i64 k ∧ Hid (Best (Borders (s.firsts k)) t n is ∧ w = wr)) (fun _ _ iv _ => s.certs.length - (intOf iv).toNat)
  case atStart => exact ⟨0, 0, false, by omega, rfl, rfl, rfl, Lib.hid ⟨⟨fun e => (by cases e), fun x hx _ => (Z.out x hx).elim, fun _ => rfl⟩, rfl⟩⟩
  case round =>
    obtain ⟨k, n, is, hk, rfl, rfl, rfl, HI⟩ := hrel
    obtain ⟨hbe, rfl⟩ := HI.out
    have BE := Lib.hid hbe
    clear HI hbe
    by_cases hlt : k < s.certs.length
    · obtain ⟨⟨i, c⟩, hx⟩ : ∃ p, s.certs[k]? = some p := ⟨_, List.getElem?_eq_getElem hlt⟩
      obtain ⟨g, f, sa, sc, rfl, rfl, q7, q0, q1, q2, q3, q4, q5, q6, hc⟩ := H1.out.item hx
      have m1 := (MAY.out k i c hx).t0
      have m2 := (MAY.out k i c hx).t1
      obtain ⟨u, hu⟩ : ∃ u, u = c.t + 1 := ⟨_, rfl⟩
      have s2 := SM.out k i c hx
      have st := (BE.out.step c.f).step (c.t + 1)
      rw [← hu] at st
      simp only [← hu] at s2
      have x1 : IntKind.i64.wrap (c.t + 1) = u := by rw [IntKind.wrap_i64]; omega
      have S2 := Lib.hid s2
      have ST := Lib.hid st
      clear hx q7 q0 q1 q2 q3 q6 hc MAY SM BE m1 m2 hu s2 st
      generalize c.f = fv at *
      generalize c.t = tv at *
      have ST := ST.out
      cases is with
      | false =>
        by_cases q1 : t < fv
        · have qb1 : decide (t < fv) = true := decide_eq_true q1
          rw [show stepN t n false fv = (fv, true) from by unfold stepN; rw [if_pos ⟨q1, .inl rfl⟩]] at ST
          clear q1
          simp only at ST
          by_cases r1 : t < u
          · have rb1 : decide (t < u) = true := decide_eq_true r1
            by_cases r2 : u < fv
            · have rb2 : decide (u < fv) = true := decide_eq_true r2
              rw [show stepN t fv true u = (u, true) from by unfold stepN; rw [if_pos ⟨r1, .inr r2⟩]] at ST
              clear r1 r2
              simp only at ST
              have ST := Lib.hid ST
              have FB := Lib.hid (ST.out.congr (fun x => (S2.out x).symm))
              clear ST S2
              go_wp2
              go_roundw
              case rel => exact ⟨k + 1, u, true, by omega, rfl, rfl, by go_num, Lib.hid ⟨FB.out, by first | trivial | rfl⟩⟩
              case measure => simp [intOf]; omega
            · have rb2 : decide (u < fv) = false := decide_eq_false r2
              rw [show stepN t fv true u = (fv, true) from by unfold stepN; rw [if_neg (fun e => by rcases e.2 with z | z; cases z; exact r2 z)]] at ST
              clear r1 r2
              simp only at ST
              have ST := Lib.hid ST
              have FB := Lib.hid (ST.out.congr (fun x => (S2.out x).symm))
              clear ST S2
              go_wp2
              go_roundw
              case rel => exact ⟨k + 1, fv, true, by omega, rfl, rfl, by go_num, Lib.hid ⟨FB.out, by first | trivial | rfl⟩⟩
              case measure => simp [intOf]; omega
          · have rb1 : decide (t < u) = false := decide_eq_false r1
            rw [show stepN t fv true u = (fv, true) from by unfold stepN; rw [if_neg (fun e => r1 e.1)]] at ST
            clear r1
            simp only at ST
            have ST := Lib.hid ST
            have FB := Lib.hid (ST.out.congr (fun x => (S2.out x).symm))
            clear ST S2
            go_wp2
            go_roundw
            case rel => exact ⟨k + 1, fv, true, by omega, rfl, rfl, by go_num, Lib.hid ⟨FB.out, by first | trivial | rfl⟩⟩
            case measure => simp [intOf]; omega
        · have qb1 : decide (t < fv) = false := decide_eq_false q1
          rw [show stepN t n false fv = (n, false) from by unfold stepN; rw [if_neg (fun e => q1 e.1)]] at ST
          clear q1
          simp only at ST
          by_cases r1 : t < u
          · have rb1 : decide (t < u) = true := decide_eq_true r1
            rw [show stepN t n false u = (u, true) from by unfold stepN; rw [if_pos ⟨r1, .inl rfl⟩]] at ST
            clear r1
            simp only at ST
            have ST := Lib.hid ST
            have FB := Lib.hid (ST.out.congr (fun x => (S2.out x).symm))
            clear ST S2
            go_wp2
            go_roundw
            case rel => exact ⟨k + 1, u, true, by omega, rfl, rfl, by go_num, Lib.hid ⟨FB.out, by first | trivial | rfl⟩⟩
            case measure => simp [intOf]; omega
          · have rb1 : decide (t < u) = false := decide_eq_false r1
            rw [show stepN t n false u = (n, false) from by unfold stepN; rw [if_neg (fun e => r1 e.1)]] at ST
            clear r1
            simp only at ST
            have ST := Lib.hid ST
            have FB := Lib.hid (ST.out.congr (fun x => (S2.out x).symm))
            clear ST S2
            go_wp2
            go_roundw
            case rel => exact ⟨k + 1, n, false, by omega, rfl, rfl, by go_num, Lib.hid ⟨FB.out, by first | trivial | rfl⟩⟩
            case measure => simp [intOf]; omega
      | true =>
        by_cases q1 : t < fv
        · have qb1 : decide (t < fv) = true := decide_eq_true q1
          by_cases q2 : fv < n
          · have qb2 : decide (fv < n) = true := decide_eq_true q2
            rw [show stepN t n true fv = (fv, true) from by unfold stepN; rw [if_pos ⟨q1, .inr q2⟩]] at ST
            clear q1 q2
            simp only at ST
            by_cases r1 : t < u
            · have rb1 : decide (t < u) = true := decide_eq_true r1
              by_cases r2 : u < fv
              · have rb2 : decide (u < fv) = true := decide_eq_true r2
                rw [show stepN t fv true u = (u, true) from by unfold stepN; rw [if_pos ⟨r1, .inr r2⟩]] at ST
                clear r1 r2
                simp only at ST
                have ST := Lib.hid ST
                have FB := Lib.hid (ST.out.congr (fun x => (S2.out x).symm))
                clear ST S2
                go_wp2
                go_roundw
                case rel => exact ⟨k + 1, u, true, by omega, rfl, rfl, by go_num, Lib.hid ⟨FB.out, by first | trivial | rfl⟩⟩
                case measure => simp [intOf]; omega
              · have rb2 : decide (u < fv) = false := decide_eq_false r2
                rw [show stepN t fv true u = (fv, true) from by unfold stepN; rw [if_neg (fun e => by rcases e.2 with z | z; cases z; exact r2 z)]] at ST
                clear r1 r2
                simp only at ST
                have ST := Lib.hid ST
                have FB := Lib.hid (ST.out.congr (fun x => (S2.out x).symm))
                clear ST S2
                go_wp2
                go_roundw
                case rel => exact ⟨k + 1, fv, true, by omega, rfl, rfl, by go_num, Lib.hid ⟨FB.out, by first | trivial | rfl⟩⟩
                case measure => simp [intOf]; omega
            · have rb1 : decide (t < u) = false := decide_eq_false r1
              rw [show stepN t fv true u = (fv, true) from by unfold stepN; rw [if_neg (fun e => r1 e.1)]] at ST
              clear r1
              simp only at ST
              have ST := Lib.hid ST
              have FB := Lib.hid (ST.out.congr (fun x => (S2.out x).symm))
              clear ST S2
              go_wp2
              go_roundw
              case rel => exact ⟨k + 1, fv, true, by omega, rfl, rfl, by go_num, Lib.hid ⟨FB.out, by first | trivial | rfl⟩⟩
              case measure => simp [intOf]; omega
          · have qb2 : decide (fv < n) = false := decide_eq_false q2
            rw [show stepN t n true fv = (n, true) from by unfold stepN; rw [if_neg (fun e => by rcases e.2 with z | z; cases z; exact q2 z)]] at ST
            clear q1 q2
            simp only at ST
            by_cases r1 : t < u
            · have rb1 : decide (t < u) = true := decide_eq_true r1
              by_cases r2 : u < n
              · have rb2 : decide (u < n) = true := decide_eq_true r2
                rw [show stepN t n true u = (u, true) from by unfold stepN; rw [if_pos ⟨r1, .inr r2⟩]] at ST
                clear r1 r2
                simp only at ST
                have ST := Lib.hid ST
                have FB := Lib.hid (ST.out.congr (fun x => (S2.out x).symm))
                clear ST S2
                go_wp2
                go_roundw
                case rel => exact ⟨k + 1, u, true, by omega, rfl, rfl, by go_num, Lib.hid ⟨FB.out, by first | trivial | rfl⟩⟩
                case measure => simp [intOf]; omega
              · have rb2 : decide (u < n) = false := decide_eq_false r2
                rw [show stepN t n true u = (n, true) from by unfold stepN; rw [if_neg (fun e => by rcases e.2 with z | z; cases z; exact r2 z)]] at ST
                clear r1 r2
                simp only at ST
                have ST := Lib.hid ST
                have FB := Lib.hid (ST.out.congr (fun x => (S2.out x).symm))
                clear ST S2
                go_wp2
                go_roundw
                case rel => exact ⟨k + 1, n, true, by omega, rfl, rfl, by go_num, Lib.hid ⟨FB.out, by first | trivial | rfl⟩⟩
                case measure => simp [intOf]; omega
            · have rb1 : decide (t < u) = false := decide_eq_false r1
              rw [show stepN t n true u = (n, true) from by unfold stepN; rw [if_neg (fun e => r1 e.1)]] at ST
              clear r1
              simp only at ST
              have ST := Lib.hid ST
              have FB := Lib.hid (ST.out.congr (fun x => (S2.out x).symm))
              clear ST S2
              go_wp2
              go_roundw
              case rel => exact ⟨k + 1, n, true, by omega, rfl, rfl, by go_num, Lib.hid ⟨FB.out, by first | trivial | rfl⟩⟩
              case measure => simp [intOf]; omega
        · have qb1 : decide (t < fv) = false := decide_eq_false q1
          rw [show stepN t n true fv = (n, true) from by unfold stepN; rw [if_neg (fun e => q1 e.1)]] at ST
          clear q1
          simp only at ST
          by_cases r1 : t < u
          · have rb1 : decide (t < u) = true := decide_eq_true r1
            by_cases r2 : u < n
            · have rb2 : decide (u < n) = true := decide_eq_true r2
              rw [show stepN t n true u = (u, true) from by unfold stepN; rw [if_pos ⟨r1, .inr r2⟩]] at ST
              clear r1 r2
              simp only at ST
              have ST := Lib.hid ST
              have FB := Lib.hid (ST.out.congr (fun x => (S2.out x).symm))
              clear ST S2
              go_wp2
              go_roundw
              case rel => exact ⟨k + 1, u, true, by omega, rfl, rfl, by go_num, Lib.hid ⟨FB.out, by first | trivial | rfl⟩⟩
              case measure => simp [intOf]; omega
            · have rb2 : decide (u < n) = false := decide_eq_false r2
              rw [show stepN t n true u = (n, true) from by unfold stepN; rw [if_neg (fun e => by rcases e.2 with z | z; cases z; exact r2 z)]] at ST
              clear r1 r2
              simp only at ST
              have ST := Lib.hid ST
              have FB := Lib.hid (ST.out.congr (fun x => (S2.out x).symm))
              clear ST S2
              go_wp2
              go_roundw
              case rel => exact ⟨k + 1, n, true, by omega, rfl, rfl, by go_num, Lib.hid ⟨FB.out, by first | trivial | rfl⟩⟩
              case measure => simp [intOf]; omega
          · have rb1 : decide (t < u) = false := decide_eq_false r1
            rw [show stepN t n true u = (n, true) from by unfold stepN; rw [if_neg (fun e => r1 e.1)]] at ST
            clear r1
            simp only at ST
            have ST := Lib.hid ST
            have FB := Lib.hid (ST.out.congr (fun x => (S2.out x).symm))
            clear ST S2
            go_wp2
            go_roundw
            case rel => exact ⟨k + 1, n, true, by omega, rfl, rfl, by go_num, Lib.hid ⟨FB.out, by first | trivial | rfl⟩⟩
            case measure => simp [intOf]; omega
    · obtain rfl : k = s.certs.length := by omega
      rw [FIN.out] at BE
      go_wp2
      go_ret2
      exact ⟨n, is, rfl, BE.out, Chg.refl _ _⟩
end Go.Proofs.YtdgmjablkdemmaaGreat

namespace Go.Proofs.YtdgmjablkdemmaaGreat
open Go.RowKit Go.Maps

def RSweepRes (w : World) (b : Nat) (R : Nat → Prop) (l : List Nat) (s' : PStore) (e : Ending) (w' : World) : Prop :=
  ∃ v R', e = .returned v ∧ w'.ownsRow w.heap.size 3 1 v l.length (ints l) ∧ RefS w' b R' s' ∧ Chg R w w' ∧ ∀ k, R' k → R k ∨ w.heap.size ≤ k
theorem sw_start (w : World) (G : Nat → Prop) : SwIn w (((w.alloc (.cells #[] 3)).alloc (.cells #[] 34)).alloc (.cells #[] 3)) (.slice (some ⟨w.heap.size, 0, none⟩) 0 0) (.slice (some ⟨w.heap.size + 1, 0, none⟩) 0 0) (.slice (some ⟨w.heap.size + 2, 0, none⟩) 0 0) [] [] [] G := by
  have z1 : (w.alloc (.cells #[] 3)).heap.size = w.heap.size + 1 := World.size_alloc _ _
  have z2 : ((w.alloc (.cells #[] 3)).alloc (.cells #[] 34)).heap.size = w.heap.size + 2 := by rw [World.size_alloc, z1]
  have k1 := chg_alloc (fun _ => False) w (.cells #[] 3)
  have k2 := chg_alloc (fun _ => False) (w.alloc (.cells #[] 3)) (.cells #[] 34)
  have k3 := chg_alloc (fun _ => False) ((w.alloc (.cells #[] 3)).alloc (.cells #[] 34)) (.cells #[] 3)
  have o1 := own_empty w w.heap.size 3 1 (Nat.le_refl _)
  have o2 := own_empty (w.alloc (.cells #[] 3)) w.heap.size 34 7 (by omega)
  have o3 := own_empty ((w.alloc (.cells #[] 3)).alloc (.cells #[] 34)) w.heap.size 3 1 (by omega)
  rw [z1] at o2
  rw [z2] at o3
  exact ⟨own_chg (own_chg o1 k2 (fun _ _ e => e)) k3 (fun _ _ e => e), own_chg o2 k3 (fun _ _ e => e), o3, (fun p hp => by cases hp), fun k hk e => by simp [Value.ownBlock] at hk e; omega, (k1.trans k2).trans k3⟩
set_option maxHeartbeats 4000000 in
set_option maxRecDepth 100000 in
theorem rsweep_any (w : World) (b : Nat) (R : Nat → Prop) (s : PStore) (t : Int) (h : RefS w b R s) (ht : s.turn ≤ 1000000) :
    Calls Tryz.prog 13 #[.pointer (some ⟨b, 0, none⟩), .int .i64 t] w (RSweepRes w b R (s.gone t) (sweepS s t)) := by
  have hi := h.inv
  have hRl := fun k (hk : R k) => h.lt hk
  obtain ⟨ca, cc, na, nc, xs, G, h1, hR⟩ := h.open
  have hl200 : s.certs.length ≤ 200 := Nat.le_trans hi.len hi.room2
  have H1 := Lib.hid h1
  have SWT := Lib.hid (fun wr W gv cv nv gl nl ys (sw : SwIn w wr gv cv nv gl nl ys G) e1 e2 ho hc => ref_swept (W := W) h1 (hi.sweep t) hR hRl sw e1 e2 ho hc)
  have y := fun (k i : Nat) c (hk : s.certs[k]? = some (i, c)) (hq : decide (c.t < t) = true) => which_yes (fun c => decide (c.t < t)) hk hq
  have n := fun (k i : Nat) c (hk : s.certs[k]? = some (i, c)) (hq : decide (c.t < t) = false) => which_no (fun c => decide (c.t < t)) hk hq
  have y2 := fun (k i : Nat) c (hk : s.certs[k]? = some (i, c)) (hq : decide (t ≤ c.t) = true) => filt_yes (fun c => decide (t ≤ c.t)) hk hq
  have n2 := fun (k i : Nat) c (hk : s.certs[k]? = some (i, c)) (hq : decide (t ≤ c.t) = false) => filt_no (fun c => decide (t ≤ c.t)) hk hq
  have fin : s.gone t = (s.firsts s.certs.length).which (fun c => decide (c.t < t)) := by rw [firsts_all]; rfl
  have fin2 : (sweepS s t).certs = (s.firsts s.certs.length).certs.filter (fun p => decide (t ≤ p.2.t)) := by rw [firsts_all]; rfl
  have z : (s.firsts 0).which (fun c => decide (c.t < t)) = [] := rfl
  have z2 : (s.firsts 0).certs.filter (fun p => decide (t ≤ p.2.t)) = [] := rfl
  have le : ∀ k, ((s.firsts k).which (fun c => decide (c.t < t))).length ≤ 200 := fun k => Nat.le_trans (which_len _ _) (by unfold PStore.firsts; simp only; rw [List.length_take]; omega)
  have le2 : ∀ k, ((s.firsts k).certs.filter (fun p => decide (t ≤ p.2.t))).length ≤ 200 := fun k => Nat.le_trans (List.length_filter_le _ _) (by unfold PStore.firsts; simp only; rw [List.length_take]; omega)
  have turn : (sweepS s t).turn = if 0 < (s.gone t).length then s.turn + 1 else s.turn := rfl
  have room : (sweepS s t).room = s.room := rfl
  have next : (sweepS s t).next = s.next := rfl
  obtain ⟨T, hT⟩ : ∃ T : Nat → List Nat, ∀ k, T k = (s.firsts k).which (fun c => decide (c.t < t)) := ⟨_, fun _ => rfl⟩
  obtain ⟨U, hU⟩ : ∃ U : Nat → List (Nat × BCert), ∀ k, U k = (s.firsts k).certs.filter (fun p => decide (t ≤ p.2.t)) := ⟨_, fun _ => rfl⟩
  simp only [← hT] at y n z le fin
  simp only [← hU] at y2 n2 z2 le2 fin2
  rw [fin] at turn
  rw [fin]
  obtain ⟨V, hV⟩ : ∃ V : Nat → List Nat, ∀ k, V k = (U k).map Prod.fst := ⟨_, fun _ => rfl⟩
  have VE := Lib.hid hV
  have Y := Lib.hid y
  have N := Lib.hid n
  have Z := Lib.hid z
  have LE := Lib.hid le
  have Y2 := Lib.hid y2
  have N2 := Lib.hid n2
  have Z2 := Lib.hid z2
  have LE2 := Lib.hid le2
  have FIN2 := Lib.hid fin2
  have TU := Lib.hid (And.intro turn (And.intro room next))
  have HGL := Lib.hid (show ∀ k, G k → k < w.heap.size from fun k hk => by
    obtain ⟨cs, q⟩ := h1.typ k hk
    exact lt_of_obj q)
  have START := Lib.hid (sw_start w G)
  generalize sweepS s t = s' at *
  clear y n z le fin y2 n2 z2 le2 fin2 turn room next h h1 hi hR hRl hT hU hV
  have ka := START.out.ch
  have c0 := cell_of (o := 0) (ka.obj (fun e => e) H1.out.own) rfl
  go_enter Tryz.func13, Tryz.ntmps13
  go_wp2
  clear c0 ka
  generalize ((w.alloc (.cells #[] 3)).alloc (.cells #[] 34)).alloc (.cells #[] 3) = w1 at *
  go_loopw [5, 6, 7, 8] (fun gv cv nv iv wr => ∃ (k : Nat) (ys : List (BCert × Value)), k ≤ s.certs.length ∧ iv = .int .i64 k ∧ Hid (SwIn w wr gv cv nv (T k) (V k) ys G ∧ ys.map Prod.fst = (U k).map Prod.snd)) (fun _ _ _ iv _ => s.certs.length - (intOf iv).toNat)
  case atStart => exact ⟨0, [], by omega, rfl, Lib.hid ⟨by rw [Z.out, VE.out, Z2.out]; exact START.out, by rw [Z2.out]; rfl⟩⟩
  case round =>
    obtain ⟨k, ys, hk, rfl, HI⟩ := hrel
    obtain ⟨ga, gc, eg⟩ := own_shape HI.out.1.rg
    obtain ⟨va, vc, ev⟩ := own_shape HI.out.1.rc
    obtain ⟨ma, mc, em⟩ := own_shape HI.out.1.rn
    subst eg ev em
    have SW := Lib.hid HI.out.1
    have HM := Lib.hid HI.out.2
    clear HI
    have K1 := Lib.hid SW.out.ch
    have tl := LE.out k
    have ul : (V k).length ≤ 200 := by rw [VE.out, List.length_map]; exact LE2.out k
    have ul2 := LE2.out k
    have yl : ys.length ≤ 200 := by
      have := congrArg List.length HM.out
      rw [List.length_map, List.length_map] at this
      omega
    have c0 := cell_of (o := 0) (K1.out.obj (fun e => e) H1.out.own) rfl
    have c1 := cell_of (o := 1) (K1.out.obj (fun e => e) H1.out.own) rfl
    have hs1 := K1.out.size
    by_cases hlt : k < s.certs.length
    · obtain ⟨⟨i, c⟩, hx⟩ : ∃ p, s.certs[k]? = some p := ⟨_, List.getElem?_eq_getElem hlt⟩
      obtain ⟨g, f, sa, sc, rfl, rfl, x7, x0, x1, x2, x3, x4, x5, x6, hc⟩ := H1.out.item hx
      have q7 := cell_chg K1.out (fun e => e) x7
      have q0 := cell_chg K1.out (fun e => e) x0
      have q1 := cell_chg K1.out (fun e => e) x1
      have q2 := cell_chg K1.out (fun e => e) x2
      have q3 := cell_chg K1.out (fun e => e) x3
      have q4 := cell_chg K1.out (fun e => e) x4
      have q5 := cell_chg K1.out (fun e => e) x5
      have q6 := cell_chg K1.out (fun e => e) x6
      have X7 := Lib.hid x7
      have HC := Lib.hid hc
      clear x7 x0 x1 x2 x3 x4 x5 x6 hc
      by_cases hq : c.t < t
      · have E := Lib.hid (Y.out k i c hx (decide_eq_true hq))
        have E2 := Lib.hid (N2.out k i c hx (decide_eq_false (by omega)))
        have g1 : decide (c.t < t) = true := decide_eq_true hq
        clear hq hx Y N Y2 N2
        obtain ⟨kind, sg, sp, fr, fv, tv, nv⟩ := c
        simp only at q0 q1 q2 q3 q4 q5 q6 g1
        go_wp2_with (at_builtin; refine wpList_pushF rfl (.tmp 31) (.tmp 39) 42 rfl 3 1 8 Tryz.underlying42 Tryz.elemInt w.heap.size _ _ _ rfl (SW.out.alloc _).rg _ [.int .i64 (i : Int)] 3 (0, 0) rfl (obj_alloc_new _ _) rfl ?a1 ?a2 ?a3 ?a4 ?nx)
        case a1 => first | rfl | (intro u hu; simp at hu; subst hu; rfl)
        case a2 => omega
        case a3 => unfold maxLen; omega
        case a4 => first | omega | (rw [World.size_alloc]; omega)
        intro v5 w5 o5 g5 sn5
        obtain ⟨a5, c5, rfl⟩ := own_shape o5
        have S5 := Lib.hid ((SW.out.alloc _).gone HGL.out g5 sn5 o5)
        clear o5 g5 sn5 SW
        go_wp2
        go_roundw
        case rel => exact ⟨k + 1, ys, by omega, by go_num, Lib.hid ⟨by rw [E.out, VE.out (k + 1), E2.out, ← VE.out k]; exact S5.out, by rw [E2.out]; exact HM.out⟩⟩
        case measure => simp [intOf]; omega
      · have E := Lib.hid (N.out k i c hx (decide_eq_false hq))
        have E2 := Lib.hid (Y2.out k i c hx (decide_eq_true (by omega)))
        have g1 : decide (c.t < t) = false := decide_eq_false hq
        clear hq hx Y N Y2 N2
        obtain ⟨kind, sg, sp, fr, fv, tv, nv⟩ := c
        simp only at q0 q1 q2 q3 q4 q5 q6 g1 HC E2
        go_wp2_with (at_builtin; refine wpList_push rfl (.tmp 41) (.tmp 49) 47 rfl 34 7 80 Tryz.underlying47 Tryz.elemCert w.heap.size _ _ _ rfl (SW.out.alloc _).rc _ [.int .i64 kind, .int .u16 (sg : Int), .string sp, .slice sa fr.length sc, .int .i64 fv, .int .i64 tv, .int .i64 nv] 34 (0, 0) rfl (obj_alloc_new _ _) rfl ?b1 ?b2 ?b3 ?b4 ?nx2)
        case b1 => intro u hu; simp at hu; rcases hu with rfl | rfl | rfl | rfl | rfl | rfl | rfl <;> rfl
        case b2 => omega
        case b3 => unfold maxLen; omega
        case b4 => first | omega | (rw [World.size_alloc]; omega)
        intro v4 w4 o4 g4
        obtain ⟨a4, c4, rfl⟩ := own_shape o4
        have S4 := Lib.hid ((SW.out.alloc _).keepC (c := ⟨kind, sg, sp, fr, fv, tv, nv⟩) HGL.out (HC.out.chg (SW.out.alloc _).ch (fun _ _ e => e)) g4 o4)
        have K4 := Lib.hid S4.out.ch
        have hs4 := K4.out.size
        have d1 := cell_of (o := 1) (K4.out.obj (fun e => e) H1.out.own) rfl
        have r7 := cell_chg K4.out (fun e => e) X7.out
        clear o4 g4 SW K1 q0 q1 q2 q3 q4 q5 q6 q7 c0 c1
        go_wp2_with (at_builtin; go_loud (refine wpList_pushF rfl (.tmp 51) (.tmp 59) 42 rfl 3 1 8 Tryz.underlying42 Tryz.elemInt w.heap.size _ _ _ rfl (S4.out.alloc _).rn _ [.int .i64 (i : Int)] 3 (0, 0) rfl (obj_alloc_new _ _) rfl ?e1 ?e2 ?e3 ?e4 ?nx3))
        case e1 => first | rfl | (intro u hu; simp at hu; subst hu; rfl)
        case e2 => omega
        case e3 => unfold maxLen; omega
        case e4 => first | omega | (rw [World.size_alloc]; omega)
        intro v5 w5 o5 g5 sn5
        obtain ⟨a5, c5, rfl⟩ := own_shape o5
        have S5 := Lib.hid ((S4.out.alloc _).keepN HGL.out g5 sn5 o5)
        clear o5 g5 sn5 S4
        go_wp2
        go_roundw
        case rel => exact ⟨k + 1, _, by omega, by go_num, Lib.hid ⟨by rw [E.out, VE.out (k + 1), E2.out, List.map_append, ← VE.out k]; exact S5.out, by rw [E2.out, List.map_append, List.map_append, HM.out]; rfl⟩⟩
        case measure => simp [intOf]; omega
    · obtain rfl : k = s.certs.length := by omega
      have c4 := cell_of (o := 4) (K1.out.obj (fun e => e) H1.out.own) rfl
      have f0 := frozen_of (o := 0) (K1.out.obj (fun e => e) H1.out.own)
      have f1 := frozen_of (o := 1) (K1.out.obj (fun e => e) H1.out.own)
      have f4 := frozen_of (o := 4) (K1.out.obj (fun e => e) H1.out.own)
      have HO := Lib.hid (K1.out.obj (fun e => e) H1.out.own)
      have x1 : IntKind.i64.wrap ((s.turn : Int) + 1) = (s.turn : Int) + 1 := by rw [IntKind.wrap_i64]; omega
      have FE := Lib.hid (And.intro (HM.out.trans (congrArg (List.map Prod.snd) FIN2.out.symm)) ((VE.out _).trans (congrArg (List.map Prod.fst) FIN2.out.symm)))
      by_cases hg : 0 < (T s.certs.length).length
      · have g1 : decide (0 < ((T s.certs.length).length : Int)) = true := decide_eq_true (by omega)
        have g2 : decide (0 < (T s.certs.length).length) = true := decide_eq_true hg
        have TT := Lib.hid (show s'.turn = s.turn + 1 from by rw [TU.out.1, if_pos hg])
        clear hg
        go_wp2
        have kc := ((chg_cell wr b 0 (.slice va ys.length vc)).trans (chg_cell _ b 1 (.slice ma (V s.certs.length).length mc))).trans (chg_cell _ b 4 (.int .i64 ((s.turn : Int) + 1)))
        obtain ⟨q1, q2, q3⟩ := SWT.out wr _ _ _ _ _ _ _ SW.out FE.out.1 FE.out.2 (by
          rw [TT.out, TU.out.2.1, TU.out.2.2]
          exact obj_setCell (o := 4) (obj_setCell (o := 1) (obj_setCell (o := 0) HO.out _) _) _) kc
        go_ret
        exact ⟨_, _, rfl, q3, q1, q2, fun k hk => Or.imp id (fun e => e.1) hk⟩
      · have g1 : decide (0 < ((T s.certs.length).length : Int)) = false := decide_eq_false (by omega)
        have g2 : decide (0 < (T s.certs.length).length) = false := decide_eq_false hg
        have TT := Lib.hid (show s'.turn = s.turn from by rw [TU.out.1, if_neg hg])
        clear hg
        go_wp2
        have kc := ((chg_cell wr b 0 (.slice va ys.length vc)).trans (chg_cell _ b 1 (.slice ma (V s.certs.length).length mc)))
        obtain ⟨q1, q2, q3⟩ := SWT.out wr _ _ _ _ _ _ _ SW.out FE.out.1 FE.out.2 (by
          rw [TT.out, TU.out.2.1, TU.out.2.2]
          exact obj_setCell (o := 1) (obj_setCell (o := 0) HO.out _) _) kc
        go_ret
        exact ⟨_, _, rfl, q3, q1, q2, fun k hk => Or.imp id (fun e => e.1) hk⟩
end Go.Proofs.YtdgmjablkdemmaaGreat
