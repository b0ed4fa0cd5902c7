/-
  The reference's And; append of a set to words.
-/
import Derived.Test.YtbjdndialiddpaaAMRight
namespace Go.Proofs.Ytbjdndialiddpaa
open Go.RowKit Go.Maps

theorem append_types {P : Program} {w : World} {t t2 ty e e2 : TypeId} {args : Array Value} (ht : P.underlying t = some (.slice e)) (ht2 : P.underlying t2 = some (.slice e2)) : (Builtin.append_ #[t, t2] ty args).run P w = (Builtin.append_ #[t, t] ty args).run P w := by
  have e0 : (#[t, t2] : Array TypeId)[0]? = some t := rfl
  have e1 : (#[t, t2] : Array TypeId)[1]? = some t2 := rfl
  have e2 : (#[t, t] : Array TypeId)[0]? = some t := rfl
  have e3 : (#[t, t] : Array TypeId)[1]? = some t := rfl
  unfold Builtin.append_
  simp only [e0, e1, e2, e3]
  cases h0 : args[0]? with
  | none => rfl
  | some s =>
    cases h1 : args[1]? with
    | none => rfl
    | some x =>
      simp only [Sem.run_bind, run_underlying ht, Result.andThen_ok]
      cases s with
      | slice a n c =>
        simp only [Sem.run_bind, run_underlying ht, run_underlying ht2, Result.andThen_ok, Sem.run_pure]
      | _ => rfl
/-- 'append(s, x..)', x of another type of slices. -/
theorem wpList_pushT {P : Program} {w : World} {ops : Array Oper} {rest : List Oper} {o : Oper} {a : Act} {Q : Exit → Act → World → Prop} (hgd : o.guard = none) (s x : Operand) (t t2 : TypeId)
    (ho : o.op = .call { callee := .builtin .append, args := #[s, x], argTypes := #[t, t2] }) (e e2 : TypeId) (size bytes : Nat) (ht : P.underlying t = some (.slice e)) (ht2 : P.underlying t2 = some (.slice e2)) (hE : ElemInfo P e size bytes)
    (base : Nat) (v : Value) (n : Nat) (xs : List Value) (hs : a.eval s = v) (hown : w.ownsRow base e size v n xs)
    (xa : Option Addr) (m c : Nat) (news : List Value) (hx : a.eval x = .slice xa m c) (hl : news.length = m * size) (hc : ∀ (j : Nat) u, news[j]? = some u → ∃ g o, xa = some ⟨g, o, none⟩ ∧ w.cell? ⟨g, o + j, none⟩ = some u) (hnil : xa = none → m = 0 ∧ c = 0)
    (h1 : ∀ u ∈ news, u.oneCell' = true) (hbytes : (n + m) * bytes ≤ 140737488355328) (h63 : n + m ≤ maxLen) (hbase : base ≤ w.heap.size)
    (h : ∀ v' w', w'.ownsRow base e size v' (n + m) (xs ++ news) → w.grownBy w' v.ownBlock → wpList P ops Q rest (a.put o.dst v') w') : wpList P ops Q (o :: rest) a w := by
  obtain ⟨i, z, hi, hz, q1, q2, q3, q4⟩ := hE
  refine wpList_plain hgd fun K hK => ?_
  cases xa with
  | none =>
    obtain ⟨rfl, rfl⟩ := hnil rfl
    have : news = [] := List.eq_nil_of_length_eq_zero (by rw [hl]; omega)
    subst this
    have hrun := run_append_owned_none (P := P) (w := w) base t o.type e i size ht hi v n xs hown
    rw [← append_types ht ht2] at hrun
    unfold Oper.wp
    simp [execOp, ho, resolve, invoke, builtin, hs, hx, hrun, Result.andThen]
    exact hK _ _ (h v w (by simpa using hown) ⟨rfl, rfl, rfl, Nat.le_refl _, fun _ _ _ => rfl⟩)
  | some ad =>
    have hnews : ∀ j u, news[j]? = some u → w.cell? (ad.add j) = some u := fun j u hj => by
      obtain ⟨g, oo, e1, hcell⟩ := hc j u hj
      cases e1
      rw [addr_add]; exact hcell
    obtain ⟨v', w', hr, h2, h3, _⟩ := run_append_own (P := P) w base t o.type e i z size bytes ht hi hz q1 q2 q3 q4 v n xs hown ad m c news hl hnews h1 h63 hbytes hbase
    rw [← append_types ht ht2] at hr
    unfold Oper.wp execOp
    simp only [ho, resolve, invoke, builtin, Sem.run_bind, Sem.run_pure, Result.andThen_ok, List.map_toArray, List.map_cons, List.map_nil, hs, hx, hr]
    exact hK _ _ (h v' w' h2 h3)
set_option maxRecDepth 100000 in
theorem bound_ok (w : World) (a : Option Addr) (n c : Nat) (h1 : 1 ≤ n) (h2 : n ≤ 16) : Calls Try.prog 42 #[.slice a n c] w fun e w' => e = .returned (.tuple #[.slice a n c, .int .i64 0]) ∧ w = w' := by
  have g1 : decide ((n : Int) < 1) = false := decide_eq_false (by omega)
  have g2 : decide (16 < (n : Int)) = false := decide_eq_false (by omega)
  go_enter Try.func42, Try.ntmps42
  go_wp2
  go_ret2
  exact ⟨rfl, rfl⟩
set_option maxRecDepth 100000 in
theorem bound_bad (w : World) (a : Option Addr) (n c : Nat) (h : ¬ (1 ≤ n ∧ n ≤ 16)) (hn : n ≤ 100000) : Calls Try.prog 42 #[.slice a n c] w fun e w' => e = .returned (.tuple #[.slice none 0 0, .int .i64 3]) ∧ w = w' := by
  by_cases h1 : n = 0
  · have g1 : decide ((n : Int) < 1) = true := decide_eq_true (by omega)
    clear h h1
    go_enter Try.func42, Try.ntmps42
    go_wp2
    go_ret2
    exact ⟨rfl, rfl⟩
  · have g1 : decide ((n : Int) < 1) = false := decide_eq_false (by omega)
    have g2 : decide (16 < (n : Int)) = true := decide_eq_true (by omega)
    clear h h1
    go_enter Try.func42, Try.ntmps42
    go_wp2
    go_ret2
    exact ⟨rfl, rfl⟩
def AndRes (w : World) (c : List ByteArray) (e : Ending) (w' : World) : Prop :=
  ∃ a n cp k, e = .returned (.tuple #[.slice a n cp, .int .i64 k]) ∧ (k = 0 → ∃ m, WordsAt w' (.slice a n cp) (fun x => w.heap.size ≤ x ∧ x < w'.heap.size) m ∧ setB m = true ∧ ∀ x ∈ c, x ∈ m) ∧ Chg (fun _ => False) w w'
set_option maxHeartbeats 1000000 in
set_option maxRecDepth 100000 in
theorem and_any (w : World) (cv dv : Value) (c d : List ByteArray) (G G' : Nat → Prop) (hc : SetAt w cv G c) (hd : SetAt w dv G' d) (hzc : Sizes c) (hzd : Sizes d) (hlc : c.length ≤ 30) (hld : d.length ≤ 30) :
    Calls Try.prog 28 #[cv, dv] w (AndRes w c) := by
  have M1 := Lib.hid (rsetMay_any w cv G c hc.at_ hzc)
  have M2 := Lib.hid (fun w1 (q : Chg (fun _ => False) w w1) => rsetMay_any w1 dv G' d (hd.at_.chg q (fun _ _ e => e)) hzd)
  have HC := Lib.hid hc
  have HD := Lib.hid hd
  obtain ⟨ca, ccap, rfl, _, _⟩ := hc.at_
  obtain ⟨da, dcap, rfl, _, _⟩ := hd.at_
  have ZM := Lib.hid (show ∀ x ∈ c ++ d, x.size ≤ maxLen from fun x hx => by
    unfold maxLen
    rcases List.mem_append.1 hx with q | q
    · have := hzc x q; omega
    · have := hzd x q; omega)
  clear hc hd hzc hzd
  cases h1 : setB c with
  | false =>
    rw [h1] at M1
    clear h1 M2
    go_enter Try.func28, Try.ntmps28
    go_wp2_with fail
    (with_reducible refine (M1.out).mono ?_)
    rintro e w2 ⟨rfl, k2⟩
    go_wp2
    go_ret2
    exact ⟨_, _, _, _, rfl, (fun h => by cases h), k2⟩
  | true =>
    rw [h1] at M1
    cases h2 : setB d with
    | false =>
      rw [h2] at M2
      clear h1 h2
      go_enter Try.func28, Try.ntmps28
      go_wp2_with fail
      (with_reducible refine (M1.out).mono ?_)
      rintro e w2 ⟨rfl, k2⟩
      have N2 := Lib.hid (M2.out w2 k2)
      have K2 := Lib.hid k2
      clear k2 M1 M2
      go_wp2_with fail
      (with_reducible refine (N2.out).mono ?_)
      rintro e w3 ⟨rfl, k3⟩
      go_wp2
      go_ret2
      exact ⟨_, _, _, _, rfl, (fun h => by cases h), K2.out.trans k3⟩
    | true =>
      rw [h2] at M2
      have MM := Lib.hid (show ∀ x ∈ c ++ d, mayB x.data.toList = true from fun x hx => by
        rcases List.mem_append.1 hx with q | q
        · exact setB_may h1 q
        · exact setB_may h2 q)
      clear h1 h2
      go_enter Try.func28, Try.ntmps28
      go_wp2_with fail
      (with_reducible refine (M1.out).mono ?_)
      rintro e w2 ⟨rfl, k2⟩
      have N2 := Lib.hid (M2.out w2 k2)
      have K2 := Lib.hid k2
      clear k2 M1 M2
      go_wp2_with fail
      (with_reducible refine (N2.out).mono ?_)
      rintro e w3 ⟨rfl, k3⟩
      have K3 := Lib.hid (K2.out.trans k3)
      clear k3 K2 N2
      have hs3 : w.heap.size ≤ w3.heap.size := K3.out.size
      go_wp2_with (at_builtin; refine wpList_pushT rfl (.tmp 14) (.tmp 15) 33 34 rfl 40 40 1 16 Try.underlying33 Try.underlying34 Try.elemWord w3.heap.size _ 0 [] rfl (own_empty _ _ _ _ (Nat.le_refl _)) ca c.length ccap (wcells c) rfl ?a1 ?a2 ?a3 ?a4 ?a5 ?a6 ?a7 ?nx1)
      case a1 => unfold wcells; rw [List.length_map]; omega
      case a2 => exact words_src (HC.out.chg (K3.out.alloc _) (fun _ _ e => e)).at_
      case a3 => intro e; exact HC.out.nil _ _ (by rw [e])
      case a4 => exact wcells_one c
      case a5 => omega
      case a6 => unfold maxLen; omega
      case a7 => simp
      intro v8 w8 o8 g8
      obtain ⟨a8, c8, rfl⟩ := own_shape o8
      have k8 : Chg (fun _ => False) w3 w8 := (chg_alloc (fun _ => False) w3 (.cells #[] 40)).next (Chg.of_grown g8) (fun x hx e => by
        have e2 : w3.heap.size = x := by simpa [Value.ownBlock] using e
        omega)
      have O8 := Lib.hid (show w8.ownsRow w3.heap.size 40 1 (.slice a8 c.length c8) c.length (wcells c) from by simpa using o8)
      have K8 := Lib.hid k8
      have hs8 := k8.size
      clear o8 g8 k8
      go_wp2_with (at_builtin; refine wpList_pushT rfl (.tmp 16) (.tmp 17) 33 34 rfl 40 40 1 16 Try.underlying33 Try.underlying34 Try.elemWord w3.heap.size _ c.length (wcells c) rfl O8.out da d.length dcap (wcells d) rfl ?b1 ?b2 ?b3 ?b4 ?b5 ?b6 ?b7 ?nx2)
      case b1 => unfold wcells; rw [List.length_map]; omega
      case b2 => exact words_src (HD.out.chg (K3.out.trans K8.out) (fun _ _ e => e)).at_
      case b3 => intro e; exact HD.out.nil _ _ (by rw [e])
      case b4 => exact wcells_one d
      case b5 => omega
      case b6 => unfold maxLen; omega
      case b7 => omega
      intro v9 w9 o9 g9
      have K9 := Lib.hid (show Chg (fun _ => False) w w9 from K3.out.trans (K8.out.next (Chg.of_grown g9) (fun x hx e => by have := (O8.out.lt x (by simpa using e)).1; omega)))
      have o9b : w9.ownsRow w3.heap.size 40 1 v9 (c ++ d).length (wcells (c ++ d)) := by
        unfold wcells
        rw [List.map_append, List.length_append]; exact o9
      have RA := Lib.hid (right_any w9 v9 _ (c ++ d) (setAt_own o9b ZM.out).at_ (by rw [List.length_append]; omega))
      obtain ⟨a9, c9, rfl⟩ := own_shape o9
      clear o9 g9 o9b K8 O8 K3
      have hs9 : w.heap.size ≤ w9.heap.size := K9.out.size
      go_wp2_with fail
      (with_reducible refine (RA.out).mono ?_)
      rintro e w10 ⟨va, out, rfl, ho, hri, hall, k10⟩
      obtain ⟨aa, cc, rfl⟩ := own_shape ho
      have hol : out.length ≤ 60 := by have := hri.le; rw [List.length_append] at this; omega
      have K10 := Lib.hid (K9.out.trans k10)
      have WA := Lib.hid (show WordsAt w10 (.slice aa out.length cc) (fun x => w.heap.size ≤ x ∧ x < w10.heap.size) out from
        ((setAt_own ho (fun x hx => ZM.out x (hri.sub x hx))).up (fun k hk => by have := ho.lt k hk; omega)).at_)
      have ALL := Lib.hid (show ∀ x ∈ c, x ∈ out from fun x hx => hall x (List.mem_append_left _ hx))
      by_cases hb : 1 ≤ out.length ∧ out.length ≤ 16
      · have SB := Lib.hid (right_set hri MM.out hb.1 hb.2)
        have BO := Lib.hid (bound_ok w10 aa out.length cc hb.1 hb.2)
        clear hb hri hall ho k10 RA
        go_wp2_with fail
        (with_reducible refine (BO.out).mono ?_)
        rintro e w11 ⟨rfl, rfl⟩
        go_wp2
        go_ret2
        exact ⟨_, _, _, _, rfl, fun _ => ⟨out, WA.out, SB.out, ALL.out⟩, K10.out⟩
      · have BO := Lib.hid (bound_bad w10 aa out.length cc hb (by omega))
        clear hb hri hall ho k10 RA
        go_wp2_with fail
        (with_reducible refine (BO.out).mono ?_)
        rintro e w11 ⟨rfl, rfl⟩
        go_wp2
        go_ret2
        exact ⟨_, _, _, _, rfl, (fun h => by cases h), K10.out⟩
end Go.Proofs.Ytbjdndialiddpaa
