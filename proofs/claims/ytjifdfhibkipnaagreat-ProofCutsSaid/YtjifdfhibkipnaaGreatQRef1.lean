/-
  The reference's cut: firsts, ahead, uses, anew.
  The reference's cut in plain Lean: what it needs and numbers anew is the program's.
-/
import Derived.Test.YtjifdfhibkipnaaGreatQNeed
import Derived.Test.YtjifdfhibkipnaaGreatTree
import Derived.Test.YtjifdfhibkipnaaGreatQCutP
import Derived.Test.YtjifdfhibkipnaaGreatQCut
namespace Go.Proofs.YtjifdfhibkipnaaGreat
open Go.RowKit Go.Maps

def aheadB (n : Int) (l : BSteps) : Bool := l.all fun s => decide (0 ≤ s.2) && decide (s.2 < n)
def usesB (a b : Int) (l : BSteps) : Bool := l.any fun s => decide (a ≤ s.2) && decide (s.2 < b)
theorem aheadB_stand (roots : Int) (m : Nat) (l : BSteps) : aheadB (roots + m) l = standB roots m l := rfl
set_option maxRecDepth 100000 in
theorem rahead_any (w : World) (sv : Value) (G : Nat → Prop) (l : BSteps) (n : Int) (hl : StepsAt w sv G l) :
    Calls Tryz.prog 47 #[sv, .int .i64 n] w fun e w' => e = .returned (.bool (aheadB n l)) ∧ Chg (fun _ => False) w w' := by
  have HL := Lib.hid hl
  obtain ⟨la, cap, rfl, hl0, _⟩ := hl
  unfold maxLen at hl0
  have YES := Lib.hid (fun (q : ∀ (j : Nat) (s : Int × Int), l[j]? = some s → 0 ≤ s.2 ∧ s.2 < n) => show aheadB n l = true from List.all_eq_true.2 (fun s hs => by
    obtain ⟨j, hj⟩ := List.mem_iff_getElem?.1 hs
    have := q j s hj
    rw [decide_eq_true this.1, decide_eq_true this.2]
    rfl))
  have NOT := Lib.hid (fun (j : Nat) (s : Int × Int) (hj : l[j]? = some s) (q : ¬ (0 ≤ s.2 ∧ s.2 < n)) => show aheadB n l = false from by
    cases hb : aheadB n l with
    | false => rfl
    | true =>
      have := List.all_eq_true.1 hb s (List.mem_of_getElem? hj)
      simp only [Bool.and_eq_true, decide_eq_true_eq] at this
      exact absurd this q)
  generalize aheadB n l = res at *
  go_enter Tryz.func47, Tryz.ntmps47
  go_wp2
  go_loopw [5] (fun iv wr => ∃ k : Nat, k ≤ l.length ∧ iv = .int .i64 k ∧ Hid (w = wr) ∧ Hid (∀ (j : Nat) (s : Int × Int), j < k → l[j]? = some s → 0 ≤ s.2 ∧ s.2 < n)) (fun iv _ => l.length - (intOf iv).toNat)
  case atStart => exact ⟨0, by omega, rfl, Lib.hid rfl, Lib.hid (fun j s hj => by omega)⟩
  case round =>
    obtain ⟨k, hk, rfl, hw, ALL⟩ := hrel
    have hw := hw.out
    subst hw
    by_cases hlt : k < l.length
    · have g0 : decide ((k : Int) < (l.length : Int)) = true := decide_eq_true (by omega)
      have g0' : decide (k < l.length) = true := decide_eq_true hlt
      obtain ⟨⟨at_, r⟩, hx⟩ : ∃ s, l[k]? = some s := ⟨_, List.getElem?_eq_getElem hlt⟩
      obtain ⟨_, _, e1, _, hcl⟩ := HL.out
      cases e1
      obtain ⟨lb, lo, rfl, _, x0, x1⟩ := hcl k _ hx
      simp only at x0 x1
      have NX := Lib.hid (show 0 ≤ r ∧ r < n → ∀ (j : Nat) (s : Int × Int), j < k + 1 → l[j]? = some s → 0 ≤ s.2 ∧ s.2 < n from fun q j s hj hs => by
        rcases Nat.lt_or_ge j k with z | z
        · exact ALL.out j s z hs
        · obtain rfl : j = k := by omega
          rw [hx] at hs; cases hs; exact q)
      have NO := Lib.hid (NOT.out k (at_, r) hx)
      clear hcl hx x0
      by_cases h1 : r < 0
      · have g1 : decide (r < 0) = true := decide_eq_true h1
        have R := Lib.hid (NO.out (fun q => by have := q.1; simp only at this; omega))
        go_wp2
        go_ret
        exact ⟨by rw [R.out]; rfl, Chg.refl _ _⟩
      have g1 : decide (r < 0) = false := decide_eq_false h1
      by_cases h2 : n ≤ r
      · have g2 : decide (n ≤ r) = true := decide_eq_true h2
        have R := Lib.hid (NO.out (fun q => by have := q.2; simp only at this; omega))
        go_wp2
        go_ret
        exact ⟨by rw [R.out]; rfl, Chg.refl _ _⟩
      have g2 : decide (n ≤ r) = false := decide_eq_false h2
      have R := Lib.hid (NX.out ⟨by omega, by omega⟩)
      go_wp2
      go_roundw
      case rel => exact ⟨k + 1, by omega, by go_num, Lib.hid (by first | trivial | rfl), R⟩
      case measure => simp [intOf]; omega
    · obtain rfl : k = l.length := by omega
      have g0 : decide ((l.length : Int) < (l.length : Int)) = false := decide_eq_false (by omega)
      have g0' : decide (l.length < l.length) = false := decide_eq_false (by omega)
      have R := Lib.hid (YES.out (fun j s hj => ALL.out j s (List.getElem?_eq_some_iff.1 hj).1 hj))
      go_wp2
      go_ret
      exact ⟨by rw [R.out]; rfl, Chg.refl _ _⟩
set_option maxRecDepth 100000 in
theorem ruses_any (w : World) (sv : Value) (G : Nat → Prop) (l : BSteps) (a b : Int) (hl : StepsAt w sv G l) :
    Calls Tryz.prog 48 #[sv, .int .i64 a, .int .i64 b] w fun e w' => e = .returned (.bool (usesB a b l)) ∧ Chg (fun _ => False) w w' := by
  have HL := Lib.hid hl
  obtain ⟨la, cap, rfl, hl0, _⟩ := hl
  unfold maxLen at hl0
  have YES := Lib.hid (fun (j : Nat) (s : Int × Int) (hj : l[j]? = some s) (q : a ≤ s.2 ∧ s.2 < b) => show usesB a b l = true from List.any_eq_true.2 ⟨s, List.mem_of_getElem? hj, by rw [decide_eq_true q.1, decide_eq_true q.2]; rfl⟩)
  have NOT := Lib.hid (fun (q : ∀ (j : Nat) (s : Int × Int), l[j]? = some s → ¬ (a ≤ s.2 ∧ s.2 < b)) => show usesB a b l = false from by
    cases hb : usesB a b l with
    | false => rfl
    | true =>
      obtain ⟨s, hs, h2⟩ := List.any_eq_true.1 hb
      obtain ⟨j, hj⟩ := List.mem_iff_getElem?.1 hs
      simp only [Bool.and_eq_true, decide_eq_true_eq] at h2
      exact absurd h2 (q j s hj))
  generalize usesB a b l = res at *
  go_enter Tryz.func48, Tryz.ntmps48
  go_wp2
  go_loopw [7] (fun iv wr => ∃ k : Nat, k ≤ l.length ∧ iv = .int .i64 k ∧ Hid (w = wr) ∧ Hid (∀ (j : Nat) (s : Int × Int), j < k → l[j]? = some s → ¬ (a ≤ s.2 ∧ s.2 < b))) (fun iv _ => l.length - (intOf iv).toNat)
  case atStart => exact ⟨0, by omega, rfl, Lib.hid rfl, Lib.hid (fun j s hj => by omega)⟩
  case round =>
    obtain ⟨k, hk, rfl, hw, ALL⟩ := hrel
    have hw := hw.out
    subst hw
    by_cases hlt : k < l.length
    · have g0 : decide ((k : Int) < (l.length : Int)) = true := decide_eq_true (by omega)
      have g0' : decide (k < l.length) = true := decide_eq_true hlt
      obtain ⟨⟨at_, r⟩, hx⟩ : ∃ s, l[k]? = some s := ⟨_, List.getElem?_eq_getElem hlt⟩
      obtain ⟨_, _, e1, _, hcl⟩ := HL.out
      cases e1
      obtain ⟨lb, lo, rfl, _, x0, x1⟩ := hcl k _ hx
      simp only at x0 x1
      have NX := Lib.hid (show ¬ (a ≤ r ∧ r < b) → ∀ (j : Nat) (s : Int × Int), j < k + 1 → l[j]? = some s → ¬ (a ≤ s.2 ∧ s.2 < b) from fun q j s hj hs => by
        rcases Nat.lt_or_ge j k with z | z
        · exact ALL.out j s z hs
        · obtain rfl : j = k := by omega
          rw [hx] at hs; cases hs; exact q)
      have YS := Lib.hid (YES.out k (at_, r) hx)
      clear hcl hx x0
      by_cases h1 : a ≤ r
      · have g1 : decide (a ≤ r) = true := decide_eq_true h1
        by_cases h2 : r < b
        · have g2 : decide (r < b) = true := decide_eq_true h2
          have R := Lib.hid (YS.out ⟨h1, h2⟩)
          go_wp2
          go_ret
          exact ⟨by rw [R.out]; rfl, Chg.refl _ _⟩
        · have g2 : decide (r < b) = false := decide_eq_false h2
          have R := Lib.hid (NX.out (fun q => h2 q.2))
          go_wp2
          go_roundw
          case rel => exact ⟨k + 1, by omega, by go_num, Lib.hid (by first | trivial | rfl), R⟩
          case measure => simp [intOf]; omega
      · have g1 : decide (a ≤ r) = false := decide_eq_false h1
        have R := Lib.hid (NX.out (fun q => h1 q.1))
        go_wp2
        go_roundw
        case rel => exact ⟨k + 1, by omega, by go_num, Lib.hid (by first | trivial | rfl), R⟩
        case measure => simp [intOf]; omega
    · obtain rfl : k = l.length := by omega
      have g0 : decide ((l.length : Int) < (l.length : Int)) = false := decide_eq_false (by omega)
      have g0' : decide (l.length < l.length) = false := decide_eq_false (by omega)
      have R := Lib.hid (NOT.out (fun j s hj => ALL.out j s (List.getElem?_eq_some_iff.1 hj).1 hj))
      go_wp2
      go_ret
      exact ⟨by rw [R.out]; rfl, Chg.refl _ _⟩
/-- The numbers of the first rules, as the reference writes them. -/
def firstC (roots : Int) (T : Nat → Nat) (m : Nat) : List Value := (List.range m).map fun k => .int .i64 (roots + (T k : Int))
theorem firstC_succ (roots : Int) (T : Nat → Nat) (m : Nat) : firstC roots T (m + 1) = firstC roots T m ++ [.int .i64 (roots + (T m : Int))] := by
  unfold firstC
  rw [List.range_succ, List.map_append]; rfl
theorem firstC_length (roots : Int) (T : Nat → Nat) (m : Nat) : (firstC roots T m).length = m := by unfold firstC; simp
theorem firstC_get {roots : Int} {T : Nat → Nat} {m k : Nat} (h : k < m) : (firstC roots T m)[k]? = some (.int .i64 (roots + (T k : Int))) := by
  unfold firstC
  rw [List.getElem?_map, List.getElem?_range h]; rfl
def InRange (C : List BCert) (I : List BItem) : Prop := ∀ (k : Nat) x, I[k]? = some x → 0 ≤ x.cert ∧ x.cert < C.length
def FirstRes (w : World) (roots : Int) (C : List BCert) (I : List BItem) (e : Ending) (w' : World) : Prop := Chg (fun _ => False) w w' ∧
  ((InRange C I ∧ ∃ fv, e = .returned (.tuple #[fv, .bool true]) ∧ w'.ownsRow w.heap.size 3 1 fv (I.length + 1) (firstC roots (tot C I) (I.length + 1))) ∨
   (¬ InRange C I ∧ e = .returned (.tuple #[.slice none 0 0, .bool false])))
set_option maxHeartbeats 4000000 in
set_option maxRecDepth 100000 in
theorem rfirsts_any (w : World) (roots : Int) (v iv sv : Value) (P : List (BCert × Value)) (p : BProof) (G G' : Nat → Prop) (hv : CertsAt w v G P) (hp : ProofAt w iv sv G' p) (hI : p.items.length ≤ 1000) (hC : ∀ c ∈ certsOf P, c.fr.length ≤ 1000) (hr1 : -9223372036854775808 ≤ roots) (hr2 : roots ≤ 1099511627776) :
    Calls Tryz.prog 46 #[.int .i64 roots, v, .agg #[iv, sv]] w (FirstRes w roots (certsOf P) p.items) := by
  have HV := Lib.hid hv
  have HP := Lib.hid hp
  obtain ⟨la, lcap, rfl, hl0, _⟩ := hv
  obtain ⟨ia, ic, rfl⟩ := hp.items.shape
  obtain ⟨sa, sc, rfl⟩ := hp.steps.shape
  unfold maxLen at hl0
  have CL := certsOf_length P
  obtain ⟨T, hT⟩ : ∃ T : Nat → Nat, T = tot (certsOf P) p.items := ⟨_, rfl⟩
  have TB := Lib.hid (fun k (hk : k ≤ p.items.length) => show T k ≤ 1000000 from by
    rw [hT]
    exact Nat.le_trans (tot_bound hC p.items k) (by have := Nat.mul_le_mul_right 1000 (Nat.le_trans hk hI); omega))
  have TS := Lib.hid (fun k (x : BItem) (hk : p.items[k]? = some x) => show T (k + 1) = T k + frLen (certsOf P) x.cert from by rw [hT]; exact tot_succ hk)
  have T0 := Lib.hid (show T 0 = 0 from by rw [hT]; exact tot_zero _ _)
  have FRL := Lib.hid (fun (c : Nat) q (hq : P[c]? = some q) => show frLen (certsOf P) (c : Int) = q.1.fr.length from by
    unfold frLen
    rw [Int.toNat_natCast, certsOf_get hq])
  have YES := Lib.hid (fun (q : ∀ (k : Nat) x, k < p.items.length → p.items[k]? = some x → 0 ≤ x.cert ∧ x.cert < P.length) => show InRange (certsOf P) p.items from fun k x hx => by
    rw [CL]
    exact q k x (List.getElem?_eq_some_iff.1 hx).1 hx)
  have NOT := Lib.hid (fun (k : Nat) x (hx : p.items[k]? = some x) (q : ¬ (0 ≤ x.cert ∧ x.cert < P.length)) => show ¬ InRange (certsOf P) p.items from fun h => by
    have := h k x hx
    rw [CL] at this
    exact q this)
  unfold FirstRes
  rw [← hT]
  generalize InRange (certsOf P) p.items = OK at *
  have OB := Lib.hid (obj_alloc_new w (.cells #[.slice ia p.items.length ic, .slice sa p.steps.length sc] 30))
  have kb := chg_alloc (fun _ => False) w (.cells #[.slice ia p.items.length ic, .slice sa p.steps.length sc] 30)
  have ka := chg_alloc (fun _ => False) (w.alloc (.cells #[.slice ia p.items.length ic, .slice sa p.steps.length sc] 30)) (.cells #[.int .i64 roots] 3)
  have KB := Lib.hid (kb.trans ka)
  have OA := Lib.hid (ka.obj (fun e => e) OB.out)
  have or : ((w.alloc (.cells #[.slice ia p.items.length ic, .slice sa p.steps.length sc] 30)).alloc (.cells #[.int .i64 roots] 3)).ownsRow (w.alloc (.cells #[.slice ia p.items.length ic, .slice sa p.steps.length sc] 30)).heap.size 3 1 (.slice (some ⟨(w.alloc (.cells #[.slice ia p.items.length ic, .slice sa p.steps.length sc] 30)).heap.size, 0, none⟩) 1 1) 1 [.int .i64 roots] := own_lit rfl (by decide)
  rw [World.size_alloc] at or
  have OR0 := Lib.hid or
  have hs1 : w.heap.size + 1 ≤ ((w.alloc (.cells #[.slice ia p.items.length ic, .slice sa p.steps.length sc] 30)).alloc (.cells #[.int .i64 roots] 3)).heap.size := by rw [World.size_alloc, World.size_alloc]; omega
  clear hp hT CL kb ka or OB
  go_enter Tryz.func46, Tryz.ntmps46
  go_wp2
  generalize (w.alloc (.cells #[.slice ia p.items.length ic, .slice sa p.steps.length sc] 30)).alloc (.cells #[.int .i64 roots] 3) = w1 at *
  go_loopw [8, 9, 10] (fun ov nv iv wr => ∃ k : Nat, k ≤ p.items.length ∧ nv = .int .i64 (roots + (T k : Int)) ∧ iv = .int .i64 k ∧ Hid (wr.ownsRow (w.heap.size + 1) 3 1 ov (k + 1) (firstC roots T (k + 1)) ∧ (Chg (fun _ => False) w wr ∧ wr.heap[w.heap.size]? = some (.cells #[.slice ia p.items.length ic, .slice sa p.steps.length sc] 30 (0, 0))) ∧ ∀ (j : Nat) x, j < k → p.items[j]? = some x → 0 ≤ x.cert ∧ x.cert < P.length)) (fun _ _ iv _ => p.items.length - (intOf iv).toNat)
  case atStart =>
    refine ⟨0, by omega, ?_, rfl, Lib.hid ⟨?_, ⟨KB.out, OA.out⟩, fun j x hj => by omega⟩⟩
    · rw [T0.out]; simp
    · have e : firstC roots T (0 + 1) = [.int .i64 roots] := by
        unfold firstC
        simp [T0.out]
      rw [e]
      exact OR0.out
  case round =>
    obtain ⟨k, hk, rfl, rfl, HI⟩ := hrel
    have KW := Lib.hid HI.out.2.1.1
    have OP := Lib.hid HI.out.2.1.2
    have ALL := Lib.hid HI.out.2.2
    obtain ⟨ba, bc, rfl⟩ := own_shape HI.out.1
    have OR := Lib.hid HI.out.1
    have tk := TB.out k hk
    have q0 := cell_of (o := 0) OP.out rfl
    clear HI OR0
    by_cases hlt : k < p.items.length
    · have g0 : decide ((k : Int) < (p.items.length : Int)) = true := decide_eq_true (by omega)
      have g0' : decide (k < p.items.length) = true := decide_eq_true hlt
      obtain ⟨⟨cert, paths⟩, hx⟩ : ∃ x, p.items[k]? = some x := ⟨_, List.getElem?_eq_getElem hlt⟩
      obtain ⟨_, _, e1, _, hcl⟩ := HP.out.items.chg KW.out (fun _ _ e => e)
      cases e1
      obtain ⟨lb, lo, pv, rfl, _, i0, i1, hpa⟩ := hcl k _ hx
      simp only at i0
      have NO := Lib.hid (NOT.out k _ hx)
      have TSK := Lib.hid (TS.out k _ hx)
      have NX := Lib.hid (show 0 ≤ cert ∧ cert < (P.length : Int) → ∀ (j : Nat) x, j < k + 1 → p.items[j]? = some x → 0 ≤ x.cert ∧ x.cert < P.length from fun q j x hj hs => by
        rcases Nat.lt_or_ge j k with z | z
        · exact ALL.out j x z hs
        · obtain rfl : j = k := by omega
          rw [hx] at hs; cases hs; exact q)
      clear hcl hx i1 hpa
      by_cases h1 : cert < 0
      · have g1 : decide (cert < 0) = true := decide_eq_true h1
        have R := Lib.hid (NO.out (fun q => by have := q.1; simp only at this; omega))
        go_wp2
        refine bodyPost_ret (v := .tuple #[.slice none 0 0, .bool false]) (by simp [results, Tryz.results46, go_sem]) rfl ?_
        exact ⟨KW.out, .inr ⟨R.out, rfl⟩⟩
      have g1 : decide (cert < 0) = false := decide_eq_false h1
      obtain ⟨c, rfl⟩ : ∃ c : Nat, cert = (c : Int) := ⟨cert.toNat, by omega⟩
      by_cases hc1 : c < P.length
      rotate_left
      · have g3 : decide ((P.length : Int) ≤ (c : Int)) = true := decide_eq_true (by omega)
        have g4 : decide (P.length ≤ c) = true := decide_eq_true (by omega)
        have R := Lib.hid (NO.out (fun q => by have := q.2; simp only at this; omega))
        go_wp2
        refine bodyPost_ret (v := .tuple #[.slice none 0 0, .bool false]) (by simp [results, Tryz.results46, go_sem]) rfl ?_
        exact ⟨KW.out, .inr ⟨R.out, rfl⟩⟩
      have g3 : decide ((P.length : Int) ≤ (c : Int)) = false := decide_eq_false (by omega)
      have g4 : decide (P.length ≤ c) = false := decide_eq_false (by omega)
      obtain ⟨pq, hpq⟩ : ∃ pq, P[c]? = some pq := ⟨_, List.getElem?_eq_getElem hc1⟩
      have FR := FRL.out c pq hpq
      have TE : T (k + 1) = T k + pq.1.fr.length := by rw [TSK.out]; (try simp only); rw [FR]
      have tk1 := TB.out (k + 1) hlt
      have TI := Lib.hid (show roots + (T (k + 1) : Int) = roots + (T k : Int) + (pq.1.fr.length : Int) by omega)
      have z1 : IntKind.i64.wrap (roots + (T k : Int) + (pq.1.fr.length : Int)) = roots + (T k : Int) + (pq.1.fr.length : Int) := by rw [IntKind.wrap_i64]; omega
      have hfl : pq.1.fr.length ≤ 1000000 := by omega
      obtain ⟨_, _, e2, _, hcl2⟩ := HV.out.chg KW.out (fun _ _ e => e)
      cases e2
      obtain ⟨cb, co, ca, cc, rfl, _, _, _, _, _, c3, _⟩ := hcl2 c pq hpq
      have R := Lib.hid (NX.out ⟨by omega, by omega⟩)
      have hbs : w.heap.size + 1 ≤ wr.heap.size := lt_of_obj OP.out
      clear hcl2 hpq FR TE NO NX h1
      obtain ⟨fl, hfl2⟩ : ∃ fl, fl = pq.1.fr.length := ⟨_, rfl⟩
      rw [← hfl2] at z1 hfl c3 TI
      clear hfl2
      go_wp2_with (at_builtin; refine wpList_push rfl (.tmp 44) (.tmp 46) 48 rfl 3 1 8 Tryz.underlying48 Tryz.elemInt (w.heap.size + 1) (.slice ba (k + 1) bc) (k + 1) (firstC roots T (k + 1)) rfl (OR.out.alloc _) _ [.int .i64 (roots + (T k : Int) + (fl : Int))] 3 (0, 0) rfl (obj_alloc_new _ _) rfl ?b1 ?b2 ?b3 ?b4 ?nx)
      case b1 => first | rfl | (intro u hu; simp at hu; subst hu; rfl)
      case b2 => omega
      case b3 => unfold maxLen; omega
      case b4 => first | omega | (rw [World.size_alloc]; omega)
      intro v5 w5 o5 g5
      obtain ⟨a5, c5, rfl⟩ := own_shape o5
      have ka := chg_alloc (fun _ => False) wr (.cells #[.int .i64 (roots + (T k : Int) + (fl : Int))] 3)
      have KN := Lib.hid (And.intro ((KW.out.trans ka).next (Chg.of_grown g5) (fun i hi e => by have := (OR.out.lt i e).1; omega)) ((Chg.of_grown g5).obj (fun e => by have := (OR.out.lt _ e).1; omega) (ka.obj (fun e => e) OP.out)))
      have ON := Lib.hid (show w5.ownsRow (w.heap.size + 1) 3 1 (.slice a5 (k + 1 + 1) c5) (k + 1 + 1) (firstC roots T (k + 1 + 1)) by
        rw [firstC_succ roots T (k + 1), TI.out]
        exact o5)
      have TI2 := TI.out
      clear o5 g5 ka q0 c3 i0
      go_wp2
      go_roundw
      case rel => exact ⟨k + 1, by omega, by rw [TI2], by go_num, Lib.hid ⟨ON.out, KN.out, R.out⟩⟩
      case measure => simp [intOf]; omega
    · obtain rfl : k = p.items.length := by omega
      have g0 : decide ((p.items.length : Int) < (p.items.length : Int)) = false := decide_eq_false (by omega)
      have g0' : decide (p.items.length < p.items.length) = false := decide_eq_false (by omega)
      have R := Lib.hid (YES.out ALL.out)
      go_wp2
      refine bodyPost_ret (v := .tuple #[.slice ba (p.items.length + 1) bc, .bool true]) (by simp [results, Tryz.results46, go_sem]) rfl ?_
      exact ⟨KW.out, .inl ⟨R.out, _, rfl, own_base OR.out (by omega)⟩⟩
/-- What the reference takes off a rule's number. -/
def roff (roots : Int) (T : Nat → Nat) (N : Nat → Bool) (r : Int) : Nat → Nat
  | 0 => 0
  | k + 1 => roff roots T N r k + (if N k = false ∧ roots + (T (k + 1) : Int) ≤ r then T (k + 1) - T k else 0)
def ranewS (roots : Int) (T : Nat → Nat) (N : Nat → Bool) (m : Nat) (s : Int × Int) : Int × Int := (s.1, s.2 - (roff roots T N s.2 m : Int))
theorem roff_le {roots : Int} {T : Nat → Nat} (hT : ∀ k, T k ≤ T (k + 1)) (N : Nat → Bool) (r : Int) : ∀ k, roff roots T N r k + T 0 ≤ T k
  | 0 => by unfold roff; omega
  | k + 1 => by
    have ih := roff_le (roots := roots) hT N r k
    have := hT k
    unfold roff
    split <;> omega
/-- What anew leans on: the first numbers, what is needed. -/
structure RowsAt (w : World) (fb fc nb : Nat) (na : Option Addr) (nc : Nat) (roots : Int) (T : Nat → Nat) (m : Nat) (N : Nat → Bool) : Prop where
  f : ∀ k, k ≤ m → w.cell? ⟨fb, k, none⟩ = some (.int .i64 (roots + (T k : Int)))
  n : ∀ k, k < m → na = some ⟨nb, 0, none⟩ ∧ w.cell? ⟨nb, k, none⟩ = some (.bool (N k))
theorem RowsAt.chg {w w' : World} {fb fc nb : Nat} {na : Option Addr} {nc : Nat} {roots : Int} {T : Nat → Nat} {m : Nat} {N : Nat → Bool} (h : RowsAt w fb fc nb na nc roots T m N) (k : Chg (fun _ => False) w w') : RowsAt w' fb fc nb na nc roots T m N :=
  ⟨fun i hi => cell_chg k (fun e => e) (h.f i hi), fun i hi => ⟨(h.n i hi).1, cell_chg k (fun e => e) (h.n i hi).2⟩⟩
theorem take_map_succ {f : Int × Int → Int × Int} {l : BSteps} {k : Nat} {s : Int × Int} (h : l[k]? = some s) : (l.take (k + 1)).map f = (l.take k).map f ++ [f s] := by
  rw [List.take_add_one, h, List.map_append]
  rfl
theorem scells_append (a b : BSteps) : scells (a ++ b) = scells a ++ scells b := by unfold scells; rw [List.flatMap_append]
set_option maxHeartbeats 8000000 in
set_option maxRecDepth 100000 in
theorem ranew_any (w : World) (fb fc nb : Nat) (na : Option Addr) (nc : Nat) (roots : Int) (T : Nat → Nat) (m : Nat) (N : Nat → Bool) (sv : Value) (G : Nat → Prop) (l : BSteps) (h : RowsAt w fb fc nb na nc roots T m N) (hl : StepsN w sv G l) (hll : l.length ≤ 1000000) (hm : m ≤ 1000) (hT : ∀ k, T k ≤ T (k + 1)) (hTm : T m ≤ 1000000) (hr0 : 0 ≤ roots) (hr : roots ≤ 1099511627776) (hs : ∀ s ∈ l, 0 ≤ s.2 ∧ s.2 ≤ 9223372036854775807) :
    Calls Tryz.prog 49 #[sv, .slice (some ⟨fb, 0, none⟩) (m + 1) fc, .slice na m nc] w fun e w' => ∃ v, e = .returned v ∧ w'.ownsRow w.heap.size 45 2 v l.length (scells (l.map (ranewS roots T N m))) ∧ Chg (fun _ => False) w w' := by
  have HL := Lib.hid hl
  have HA := Lib.hid h
  have HS := Lib.hid hs
  have TMN := Lib.hid (show ∀ i j, i ≤ j → T i ≤ T j from fun i j hij => by
    induction hij with
    | refl => exact Nat.le_refl _
    | step _ ih => exact Nat.le_trans ih (hT _))
  have ROF := Lib.hid (fun r k (hk : k ≤ m) => show roff roots T N r k ≤ 1000000 from by
    have h1 := roff_le (roots := roots) hT N r k
    have h2 := TMN.out k m hk
    omega)
  have ROS := Lib.hid (fun r k => show roff roots T N r (k + 1) = roff roots T N r k + (if N k = false ∧ roots + (T (k + 1) : Int) ≤ r then T (k + 1) - T k else 0) from rfl)
  have RO0 := Lib.hid (fun r => show roff roots T N r 0 = 0 from rfl)
  obtain ⟨F, hF⟩ : ∃ F : Int → Nat → Nat, F = roff roots T N := ⟨_, rfl⟩
  obtain ⟨U, hU⟩ : ∃ U : Nat → BSteps, U = fun k => (l.take k).map (ranewS roots T N m) := ⟨_, rfl⟩
  have U0 := Lib.hid (show U 0 = [] from by rw [hU]; rfl)
  have US := Lib.hid (fun k (s : Int × Int) (hk : l[k]? = some s) => show U (k + 1) = U k ++ [(s.1, s.2 - (F s.2 m : Int))] from by rw [hU, hF]; exact take_map_succ hk)
  have UF := Lib.hid (show l.map (ranewS roots T N m) = U l.length from by rw [hU]; simp only [List.take_length])
  rw [UF.out]
  rw [← hF] at ROF ROS RO0
  obtain ⟨la, cap, rfl⟩ := hl.shape
  have k0 := chg_alloc (fun _ => False) w (.cells #[] 45)
  have K0 := Lib.hid k0
  have OE := Lib.hid (own_empty w w.heap.size 45 2 (Nat.le_refl _))
  have hz0 : w.heap.size ≤ (w.alloc (.cells #[] 45)).heap.size := k0.size
  clear hF hU h hl hs hT k0
  go_enter Tryz.func49, Tryz.ntmps49
  go_wp2
  generalize w.alloc (.cells #[] 45) = w1 at *
  go_loopw [7, 8] (fun ov iv wr => ∃ k : Nat, k ≤ l.length ∧ iv = .int .i64 k ∧ Hid (wr.ownsRow w.heap.size 45 2 ov k (scells (U k)) ∧ Chg (fun _ => False) w wr)) (fun _ iv _ => l.length - (intOf iv).toNat)
  case atStart => exact ⟨0, by omega, rfl, Lib.hid ⟨by rw [U0.out]; exact OE.out, K0.out⟩⟩
  case round =>
    obtain ⟨k, hk, rfl, HI⟩ := hrel
    have KC := Lib.hid HI.out.2
    obtain ⟨oa, oc, rfl⟩ := own_shape HI.out.1
    have OR := Lib.hid HI.out.1
    clear HI OE K0
    by_cases hlt : k < l.length
    · have g0 : decide ((k : Int) < (l.length : Int)) = true := decide_eq_true (by omega)
      have g0' : decide (k < l.length) = true := decide_eq_true hlt
      obtain ⟨⟨at_, r⟩, hx⟩ : ∃ s, l[k]? = some s := ⟨_, List.getElem?_eq_getElem hlt⟩
      obtain ⟨_, _, e1, _, hcl⟩ := HL.out.at_.chg KC.out (fun _ _ e => e)
      cases e1
      obtain ⟨lb, lo, rfl, _, x0, x1⟩ := hcl k _ hx
      simp only at x0 x1
      obtain ⟨hr1, hr2⟩ := HS.out _ (List.mem_of_getElem? hx)
      simp only at hr1 hr2
      have USK := Lib.hid (US.out k _ hx)
      have RK := Lib.hid (HA.out.chg KC.out)
      have X0 := Lib.hid x0
      have X1 := Lib.hid x1
      clear hcl hx x0
      obtain ⟨wo, hwo⟩ : ∃ wo, wo = wr := ⟨_, rfl⟩
      subst hwo
      go_wp2
      clear x1
      go_loopw [9, 10] (fun nv kv wr => ∃ j : Nat, j ≤ m ∧ nv = .int .i64 (r - (F r j : Int)) ∧ kv = .int .i64 j ∧ Hid (Chg (fun _ => False) wo wr)) (fun _ kv _ => m - (intOf kv).toNat)
      case atStart => exact ⟨0, by omega, by rw [RO0.out]; simp, rfl, Lib.hid (Chg.refl _ _)⟩
      case round =>
        obtain ⟨j, hj, rfl, rfl, KJ⟩ := hrel
        have fj := ROF.out r j hj
        by_cases hjl : j < m
        · as_aux_lemma =>
          have g1 : decide ((j : Int) < (m : Int)) = true := decide_eq_true (by omega)
          have g1' : decide (j < m) = true := decide_eq_true hjl
          have RJ := RK.out.chg KJ.out
          obtain ⟨rfl, n0⟩ := RJ.n j hjl
          have f0 := RJ.f j hj
          have f1 := RJ.f (j + 1) hjl
          have y1 := cell_chg KJ.out (fun e => e) X1.out
          have t1 := TMN.out (j + 1) m hjl
          have t2 := TMN.out j (j + 1) (Nat.le_succ _)
          have FS := Lib.hid (ROS.out r j)
          have fj1 := ROF.out r (j + 1) hjl
          have w1' : IntKind.i64.wrap ((j : Int) + 1) = (j : Int) + 1 := by rw [IntKind.wrap_i64]; omega
          cases hn : N j with
          | true =>
            rw [hn] at n0
            have FE := Lib.hid (show F r (j + 1) = F r j from by rw [FS.out, hn]; simp)
            clear RJ hn
            go_wp2_with fail
            go_quiet (fail)
            rename_i nq
            have KQ := Lib.hid (KJ.out.drewN nq)
            go_wp2
            go_roundw
            case rel => exact ⟨j + 1, by omega, by rw [FE.out], by go_num, KQ⟩
            case measure => simp [intOf]; omega
          | false =>
            rw [hn] at n0
            by_cases hge : roots + (T (j + 1) : Int) ≤ r
            · have g2 : decide (roots + (T (j + 1) : Int) ≤ r) = true := decide_eq_true hge
              have FE := Lib.hid (show F r (j + 1) = F r j + (T (j + 1) - T j) from by rw [FS.out, hn, if_pos ⟨rfl, hge⟩])
              have z3 := Lib.hid (show r - (F r (j + 1) : Int) = r - (F r j : Int) - (roots + (T (j + 1) : Int) - (roots + (T j : Int))) from by have := FE.out; omega)
              have zb : roots + (T (j + 1) : Int) - (roots + (T j : Int)) ≤ 1000000 ∧ 0 ≤ roots + (T (j + 1) : Int) - (roots + (T j : Int)) := by omega
              have zc : -1000000 ≤ r - (F r j : Int) ∧ r - (F r j : Int) ≤ 9223372036854775807 := by omega
              obtain ⟨a, ha⟩ : ∃ a : Int, a = roots + (T j : Int) := ⟨_, rfl⟩
              obtain ⟨b, hb⟩ : ∃ b : Int, b = roots + (T (j + 1) : Int) := ⟨_, rfl⟩
              obtain ⟨c, hc⟩ : ∃ c : Int, c = r - (F r j : Int) := ⟨_, rfl⟩
              rw [← ha] at f0 z3 zb
              rw [← hb] at f1 z3 zb g2
              rw [← hc] at z3 zc ⊢
              have z1 : IntKind.i64.wrap (b - a) = b - a := by rw [IntKind.wrap_i64] <;> omega
              have z2 : IntKind.i64.wrap (c - (b - a)) = c - (b - a) := by rw [IntKind.wrap_i64] <;> omega
              have x4 : ((j : Int) + 1).toNat = j + 1 := by omega
              have x5 : 0 ≤ (j : Int) + 1 := by omega
              have x6 : (j : Int) + 1 < ((m + 1 : Nat) : Int) := by omega
              have x7 : (j : Int) < (m : Int) + 1 := by omega
              clear RJ hn ha hb hc hge zb zc fj fj1 t1 t2
              go_wp2_with fail
              go_quiet (fail)
              rename_i nq
              have KQ := Lib.hid (KJ.out.drewN nq)
              clear y1 n0
              have KQ2 := Lib.hid KQ.out.drew
              go_wp2_with fail
              refine wp_still_drew (by kernel_rfl) (by kernel_rfl) ?_
              refine WS.out ?_
              repeat (refine ws_step (fun K hK => ?_); go_simp; refine hK _ ?_; clear hK K)
              refine ws_nil ?_
              go_wp2
              go_roundw
              case rel => exact ⟨j + 1, by omega, by rw [z3.out], by go_num, KQ2⟩
              case measure => simp [intOf]; omega
            · have g2 : decide (roots + (T (j + 1) : Int) ≤ r) = false := decide_eq_false hge
              have FE := Lib.hid (show F r (j + 1) = F r j from by rw [FS.out, if_neg (fun q => hge q.2)]; rfl)
              clear RJ hn
              go_wp2_with fail
              go_quiet (fail)
              rename_i nq
              have KQ := Lib.hid (KJ.out.drewN nq)
              go_wp2
              go_roundw
              case rel => exact ⟨j + 1, by omega, by rw [FE.out], by go_num, KQ⟩
              case measure => simp [intOf]; omega
        · as_aux_lemma =>
          obtain rfl : j = m := by omega
          have g1 : decide ((j : Int) < (j : Int)) = false := decide_eq_false (by omega)
          have g1' : decide (j < j) = false := decide_eq_false (by omega)
          have y0 := cell_chg KJ.out (fun e => e) X0.out
          have OJ := Lib.hid (own_chg OR.out KJ.out (fun _ _ e => e))
          have KW := Lib.hid (KC.out.trans KJ.out)
          have hbs : w.heap.size ≤ wr.heap.size := KW.out.size
          go_wp2_with (at_builtin; refine wpList_push rfl (.tmp 59) (.tmp 67) 28 rfl 45 2 16 Tryz.underlying28 Tryz.elemStep w.heap.size (.slice oa k oc) k (scells (U k)) rfl (OJ.out.alloc _) _ [.int .i64 at_, .int .i64 (r - (F r j : Int))] 45 (0, 0) rfl (obj_alloc_new _ _) rfl ?b1 ?b2 ?b3 ?b4 ?nx)
          case b1 => intro u hu; simp at hu; rcases hu with rfl | rfl <;> rfl
          case b2 => omega
          case b3 => unfold maxLen; omega
          case b4 => first | omega | (rw [World.size_alloc]; omega)
          intro v5 w5 o5 g5
          obtain ⟨a5, c5, rfl⟩ := own_shape o5
          have ka := chg_alloc (fun _ => False) wr (.cells #[.int .i64 at_, .int .i64 (r - (F r j : Int))] 45)
          have KN := Lib.hid ((KW.out.trans ka).next (Chg.of_grown g5) (fun i hi e => by have := (OJ.out.lt i e).1; omega))
          have ON := Lib.hid (show w5.ownsRow w.heap.size 45 2 (.slice a5 (k + 1) c5) (k + 1) (scells (U (k + 1))) by
            rw [USK.out, scells_append]
            exact o5)
          clear o5 g5 ka y0
          go_wp2
          go_roundw
          case rel => exact ⟨k + 1, by omega, by go_num, Lib.hid ⟨ON.out, KN.out⟩⟩
          case measure => simp [intOf]; omega
    · obtain rfl : k = l.length := by omega
      have g0 : decide ((l.length : Int) < (l.length : Int)) = false := decide_eq_false (by omega)
      have g0' : decide (l.length < l.length) = false := decide_eq_false (by omega)
      go_wp2
      go_ret
      exact ⟨_, rfl, OR.out, KC.out⟩
end Go.Proofs.YtjifdfhibkipnaaGreat

namespace Go.Proofs.YtjifdfhibkipnaaGreat
open Go.RowKit Go.Maps

variable {roots : Int} {C : List BCert} {p : BProof}
theorem usesB_iff {k i : Nat} (hk : k ≤ p.items.length) (hi : i < p.items.length) {l : BSteps} (hl : ∀ s ∈ l, s.2 < roots + tot C p.items k) : usesB (roots + (tot C p.items i : Int)) (roots + (tot C p.items (i + 1) : Int)) l = true ↔ usesL roots (begins C p.items) l i := by
  unfold usesB usesL
  rw [List.any_eq_true]
  refine ⟨fun ⟨s, hs, h⟩ => ?_, fun ⟨s, hs, h⟩ => ?_⟩
  · rw [Bool.and_eq_true, decide_eq_true_eq, decide_eq_true_eq] at h
    exact ⟨s, hs, own_at hi h.1 h.2⟩
  · obtain ⟨_, h1, h2⟩ := own_inv hk (hl s hs) h
    exact ⟨s, hs, by rw [Bool.and_eq_true, decide_eq_true_eq, decide_eq_true_eq]; exact ⟨h1, h2⟩⟩
/-- Is item i needed? -/
def needN (roots : Int) (C : List BCert) (p : BProof) (i : Nat) : Bool := (needB roots (begins C p.items) p).getD i false
/-- Does a path of an item use a rule of item i? -/
def useX (roots : Int) (C : List BCert) (p : BProof) (i : Nat) (ps : List BSteps) : Bool := ps.any (usesB (roots + (tot C p.items i : Int)) (roots + (tot C p.items (i + 1) : Int)))
def useJ (roots : Int) (C : List BCert) (p : BProof) (i j : Nat) : Bool := match p.items[j]? with
  | some x => useX roots C p i x.paths
  | none => false
/-- What the reference says of item i when it has looked at the items below k. -/
def seeD (roots : Int) (C : List BCert) (p : BProof) (i k : Nat) : Bool := usesB (roots + (tot C p.items i : Int)) (roots + (tot C p.items (i + 1) : Int)) p.steps || (List.range k).any fun j => decide (i < j) && (needN roots C p j && useJ roots C p i j)
theorem seeD_start (roots : Int) (C : List BCert) (p : BProof) (i : Nat) : seeD roots C p i (i + 1) = usesB (roots + (tot C p.items i : Int)) (roots + (tot C p.items (i + 1) : Int)) p.steps := by
  unfold seeD
  have e : ((List.range (i + 1)).any fun j => decide (i < j) && (needN roots C p j && useJ roots C p i j)) = false := by
    rw [List.any_eq_false]
    intro j hj
    have := List.mem_range.1 hj
    have d : decide (i < j) = false := decide_eq_false (by omega)
    rw [d]
    simp
  rw [e, Bool.or_false]
theorem seeD_succ {i k : Nat} {x : BItem} (hx : p.items[k]? = some x) (h : i < k) : seeD roots C p i (k + 1) = (seeD roots C p i k || (needN roots C p k && useX roots C p i x.paths)) := by
  unfold seeD
  rw [List.range_succ, List.any_append]
  have e : useJ roots C p i k = useX roots C p i x.paths := by
    unfold useJ
    rw [hx]
  have d : decide (i < k) = true := decide_eq_true h
  simp only [List.any_cons, List.any_nil, Bool.or_false, d, Bool.true_and, e, Bool.or_assoc]
theorem seeD_end (h : CutOk roots C p) {i : Nat} (hi : i < p.items.length) : seeD roots C p i p.items.length = needN roots C p i := by
  refine bool_eq_iff' ?_
  unfold needN
  rw [need_iff h i]
  unfold seeD
  rw [Bool.or_eq_true, usesB_iff (Nat.le_refl _) hi (fun s hs => (h.lasts hs).2), List.any_eq_true]
  refine or_congr Iff.rfl ⟨fun ⟨j, _, hj⟩ => ?_, fun ⟨k, x, hx, hn, hu⟩ => ?_⟩
  · rw [Bool.and_eq_true, Bool.and_eq_true, decide_eq_true_eq] at hj
    obtain ⟨_, hn, hu⟩ := hj
    unfold useJ at hu
    cases hx : p.items[j]? with
    | none => rw [hx] at hu; cases hu
    | some x =>
      rw [hx] at hu
      simp only at hu
      unfold useX at hu
      rw [List.any_eq_true] at hu
      obtain ⟨l, hl, hu⟩ := hu
      exact ⟨j, x, hx, hn, l, hl, (usesB_iff (k := j) (Nat.le_of_lt (List.getElem?_eq_some_iff.1 hx).1) hi (fun s hs => (h.stands hx hl hs).2)).1 hu⟩
  · have hik := h.ahead k x i hx hu
    obtain ⟨l, hl, hu⟩ := hu
    have hkl := (List.getElem?_eq_some_iff.1 hx).1
    refine ⟨k, List.mem_range.2 hkl, ?_⟩
    rw [Bool.and_eq_true, Bool.and_eq_true, decide_eq_true_eq]
    refine ⟨hik, hn, ?_⟩
    unfold useJ
    rw [hx]
    simp only
    unfold useX
    rw [List.any_eq_true]
    exact ⟨l, hl, (usesB_iff (k := k) (Nat.le_of_lt hkl) hi (fun s hs => (h.stands hx hl hs).2)).2 hu⟩
theorem roff_none {r : Int} (hr : r < roots) : ∀ k, roff roots (tot C p.items) (needN roots C p) r k = 0
  | 0 => rfl
  | k + 1 => by
    unfold roff
    rw [roff_none hr k, if_neg (fun q => by have := q.2; omega)]
theorem roff_some {r : Int} {i : Nat} (h1 : roots + tot C p.items i ≤ r) (h2 : r < roots + tot C p.items (i + 1)) : ∀ k, roff roots (tot C p.items) (needN roots C p) r k = goneTo C p.items (needB roots (begins C p.items) p) (min k i)
  | 0 => by rw [Nat.zero_min]; rfl
  | k + 1 => by
    unfold roff
    rw [roff_some h1 h2 k]
    by_cases hk : k + 1 ≤ i
    · have t := tot_mono C p.items hk
      have e1 : min k i = k := by omega
      have e2 : min (k + 1) i = k + 1 := by omega
      rw [e1, e2, show goneTo C p.items (needB roots (begins C p.items) p) (k + 1) = goneTo C p.items (needB roots (begins C p.items) p) k + (if (needB roots (begins C p.items) p).getD k false then 0 else tot C p.items (k + 1) - tot C p.items k) from rfl]
      unfold needN
      cases (needB roots (begins C p.items) p).getD k false with
      | true => rw [if_neg (fun q => by cases q.1), if_pos rfl]
      | false => rw [if_pos ⟨rfl, by omega⟩, if_neg (fun q => by cases q)]
    · have t := tot_mono C p.items (show i + 1 ≤ k + 1 by omega)
      have e1 : min k i = i := by omega
      have e2 : min (k + 1) i = i := by omega
      rw [e1, e2, if_neg (fun q => by have := q.2; omega), Nat.add_zero]
theorem ranew_step {k : Nat} (hk : k ≤ p.items.length) {s : Int × Int} (hs : s.2 < roots + tot C p.items k) : ranewS roots (tot C p.items) (needN roots C p) p.items.length s = anewS roots (begins C p.items) (goneTo C p.items (needB roots (begins C p.items) p)) s := by
  unfold ranewS anewS
  cases ho : own13 roots (begins C p.items) s.2 with
  | none =>
    have hr := own_none13.1 ho
    simp only
    rw [roff_none hr]
    simp
  | some i =>
    obtain ⟨h0, h1, h2⟩ := own_inv hk hs ho
    simp only
    rw [roff_some h1 h2]
    have e : min p.items.length i = i := by omega
    rw [e]
theorem ranew_list {k : Nat} (hk : k ≤ p.items.length) {l : BSteps} (hl : ∀ s ∈ l, s.2 < roots + tot C p.items k) : l.map (ranewS roots (tot C p.items) (needN roots C p) p.items.length) = anewL roots (begins C p.items) (goneTo C p.items (needB roots (begins C p.items) p)) l := by
  unfold anewL
  exact List.map_congr_left (fun s hs => ranew_step hk (hl s hs))
/-- What the reference asks ahead of its cut. -/
theorem cutOk_of (h0 : 0 ≤ roots) (hin : InRange C p.items) (hl : aheadB (roots + (tot C p.items p.items.length : Int)) p.steps = true) (hi : ∀ (k : Nat) x, p.items[k]? = some x → ∀ (j : Nat) l, x.paths[j]? = some l → aheadB (roots + (tot C p.items k : Int)) l = true) : CutOk roots C p :=
  ⟨h0, fun k x hx => by
    unfold itemB
    rw [Bool.and_eq_true, Bool.and_eq_true, decide_eq_true_eq, decide_eq_true_eq]
    exact ⟨(hin k x hx).1, (hin k x hx).2, List.all_eq_true.2 (fun l hl => by
      obtain ⟨j, hj⟩ := List.mem_iff_getElem?.1 hl
      exact hi k x hx j l hj)⟩, hl⟩
theorem cutOk_range (h : CutOk roots C p) : InRange C p.items := fun _ _ hx => h.cert hx
theorem cutOk_last (h : CutOk roots C p) : aheadB (roots + (tot C p.items p.items.length : Int)) p.steps = true := h.last
theorem cutOk_path (h : CutOk roots C p) {k : Nat} {x : BItem} (hx : p.items[k]? = some x) {l : BSteps} (hl : l ∈ x.paths) : aheadB (roots + (tot C p.items k : Int)) l = true := by
  have h1 := h.item k x hx
  unfold itemB at h1
  rw [Bool.and_eq_true, Bool.and_eq_true] at h1
  exact List.all_eq_true.1 h1.2.2 l hl
end Go.Proofs.YtjifdfhibkipnaaGreat
