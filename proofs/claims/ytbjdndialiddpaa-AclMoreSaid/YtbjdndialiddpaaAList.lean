/-
  Package acl: clone, may, Same, find.
-/
import Derived.Test.YtbjdndialiddpaaAEnt
namespace Go.Proofs.Ytbjdndialiddpaa
open Go.RowKit Go.Maps

def entV (x : BEnt) (sv : Value) : Value := .agg #[.int .i64 x.1, sv]
set_option maxRecDepth 100000 in
theorem slclone_any (w : World) (g o n c : Nat) (G : Nat → Prop) (l : List ByteArray) (hv : WordsAt w (.slice (some ⟨g, o, none⟩) n c) G l) (hl : l.length ≤ 1000) :
    Calls Try.prog 46 #[.slice (some ⟨g, o, none⟩) n c] w fun e w' => ∃ v, e = .returned v ∧ w'.ownsRow w.heap.size 40 1 v l.length (wcells l) ∧ Chg (fun _ => False) w w' := by
  have SRC := Lib.hid (words_src hv)
  obtain ⟨la, cap, e, hl0, _⟩ := hv
  cases e
  have EQN := fun w => Lib.run_eql_slice_nil (P := Try.prog) w 34 _ (some ⟨g, o, none⟩) l.length c 0 0 Try.underlying34
  go_enter Try.func46, Try.ntmps46
  go_wp2_with (at_builtin; refine wpList_pushS rfl (.tmp 5) (.tmp 6) 34 rfl 40 1 16 Try.underlying34 Try.elemWord w.heap.size _ 0 [] rfl (own_empty _ _ _ _ (Nat.le_refl _)) (some ⟨g, o, none⟩) l.length c (wcells l) rfl ?a1 ?a2 ?a3 ?a4 ?a5 ?a6 ?a7 ?nx1)
  case a1 => unfold wcells; rw [List.length_map]; omega
  case a2 =>
    intro j u hj
    obtain ⟨g', o', e, c1⟩ := SRC.out j u hj
    exact ⟨g', o', e, cell_chg (chg_alloc (fun _ => False) w _) (fun e => e) c1⟩
  case a3 => intro e; cases e
  case a4 => exact wcells_one l
  case a5 => omega
  case a6 => unfold maxLen; omega
  case a7 => simp
  intro v8 w8 o8 g8
  obtain ⟨a8, c8, rfl⟩ := own_shape o8
  have k8 : Chg (fun _ => False) w w8 := (chg_alloc (fun _ => False) w (.cells #[] 40)).next (Chg.of_grown g8) (fun x hx e => by
    have e2 : w.heap.size = x := by simpa [Value.ownBlock] using e
    omega)
  have K8 := Lib.hid k8
  have O8 := Lib.hid (show w8.ownsRow w.heap.size 40 1 (.slice a8 (0 + l.length) c8) l.length (wcells l) from by simpa using o8)
  clear o8 g8 k8
  go_wp2
  go_ret
  exact ⟨_, rfl, (by have := O8.out; rw [Nat.zero_add] at this; exact this), K8.out⟩
set_option maxRecDepth 100000 in
/-- 'clone' of an entry that may be. -/
theorem eclone_any (w : World) (x : BEnt) (a : Option Addr) (n c : Nat) (G : Nat → Prop) (hv : SetAt w (.slice a n c) G x.2) (h1 : 1 ≤ x.2.length) (h2 : x.2.length ≤ 1000) :
    Calls Try.prog 32 #[.agg #[.int .i64 x.1, .slice a n c]] w fun e w' => ∃ v, e = .returned (.agg #[.int .i64 x.1, v]) ∧ w'.ownsRow w.heap.size 40 1 v x.2.length (wcells x.2) ∧ Chg (fun _ => False) w w' := by
  obtain ⟨g, o, rfl, hg⟩ := hv.some (by omega)
  have CL := Lib.hid (fun w1 (k : Chg (fun _ => False) w w1) => slclone_any w1 g o n c G x.2 (hv.at_.chg k (fun _ _ e => e)) h2)
  clear hv
  obtain ⟨op, l⟩ := x
  simp only at CL h1 h2 ⊢
  go_enter Try.func32, Try.ntmps32
  go_wp2_with fail
  have k1 := ((chg_alloc (fun _ => False) w (.cells #[.int .i64 op, .slice (some ⟨g, o, none⟩) n c] 36)).alloc (.cells #[.int .i64 0, .slice none 0 0] 36))
  have C1 := Lib.hid (CL.out _ k1)
  have K1 := Lib.hid k1
  clear k1 CL
  (with_reducible refine (C1.out).mono ?_)
  rintro e w2 ⟨v2, rfl, o2, k2⟩
  obtain ⟨a2, c2, rfl⟩ := own_shape o2
  have o6 := k2.obj (fun e => e) (obj_alloc (.cells #[.int .i64 0, .slice none 0 0] 36) (obj_alloc_new w (.cells #[.int .i64 op, .slice (some ⟨g, o, none⟩) n c] 36)))
  have o7 := k2.obj (fun e => e) (obj_alloc_new (w.alloc (.cells #[.int .i64 op, .slice (some ⟨g, o, none⟩) n c] 36)) (.cells #[.int .i64 0, .slice none 0 0] 36))
  rw [World.size_alloc] at o7
  have c0 : w2.cell? ⟨w.heap.size, 0, none⟩ = some (.int .i64 op) := cell_of o6 rfl
  have c1 : w2.cell? ⟨w.heap.size, 1, none⟩ = some (.slice (some ⟨g, o, none⟩) n c) := cell_of o6 rfl
  have d0 : w2.cell? ⟨w.heap.size + 1, 0, none⟩ = some (.int .i64 0) := cell_of o7 rfl
  have d1 : w2.cell? ⟨w.heap.size + 1, 1, none⟩ = some (.slice none 0 0) := cell_of o7 rfl
  have f0 := frozen_of (o := 0) o6
  have f1 := frozen_of (o := 1) o6
  have e0 := frozen_of (o := 0) o7
  have e1 := frozen_of (o := 1) o7
  have O2 := Lib.hid o2
  have O7 := Lib.hid o7
  have K2 := Lib.hid (K1.out.trans k2)
  clear o6 o7 o2 k2 K1 C1
  have HO := Lib.hid (show ∀ W, W = (((w2.setCell ⟨w.heap.size, 1, none⟩ (.slice a2 l.length c2)).setCell ⟨w.heap.size + 1, 0, none⟩ (.int .i64 op)).setCell ⟨w.heap.size + 1, 1, none⟩ (.slice a2 l.length c2)) → World.ownsRow W w.heap.size 40 1 (.slice a2 l.length c2) l.length (wcells l) ∧ Chg (fun _ => False) w W ∧ W.cell? ⟨w.heap.size + 1, 0, none⟩ = some (.int .i64 op) ∧ W.cell? ⟨w.heap.size + 1, 1, none⟩ = some (.slice a2 l.length c2) from fun W hW => by
    subst hW
    have kk : Chg (fun k => k = w.heap.size ∨ k = w.heap.size + 1) w2 (((w2.setCell ⟨w.heap.size, 1, none⟩ (.slice a2 l.length c2)).setCell ⟨w.heap.size + 1, 0, none⟩ (.int .i64 op)).setCell ⟨w.heap.size + 1, 1, none⟩ (.slice a2 l.length c2)) :=
      (((Chg.refl _ w2).setCell (p := ⟨w.heap.size, 1, none⟩) (fun _ => .inl rfl) _).setCell (p := ⟨w.heap.size + 1, 0, none⟩) (fun _ => .inr rfl) _).setCell (p := ⟨w.heap.size + 1, 1, none⟩) (fun _ => .inr rfl) _
    have ob := obj_setCell (o := 1) (obj_setCell (o := 0) ((obj_setCell_ne 1 (.slice a2 l.length c2) (show w.heap.size + 1 ≠ w.heap.size by omega)).trans O7.out) (.int .i64 op)) (.slice a2 l.length c2)
    refine ⟨own_base (own_chg O2.out kk (fun k hk e => ?_)) (by simp; omega), K2.out.next kk (fun k hk e => by omega), cell_of ob rfl, cell_of ob rfl⟩
    have := (O2.out.lt k hk).1
    simp at this
    omega)
  clear O2 K2 O7
  go_wp2
  obtain ⟨W, hW⟩ : ∃ W, W = (((w2.setCell ⟨w.heap.size, 1, none⟩ (.slice a2 l.length c2)).setCell ⟨w.heap.size + 1, 0, none⟩ (.int .i64 op)).setCell ⟨w.heap.size + 1, 1, none⟩ (.slice a2 l.length c2)) := ⟨_, rfl⟩
  obtain ⟨h1, h2, z0, z1⟩ := HO.out W hW
  rw [← hW]
  clear hW HO
  refine bodyPost_ret (v := .agg #[.int .i64 op, .slice a2 l.length c2]) (by simp [results, Try.results32, go_sem, z0, z1]) rfl ?_
  exact ⟨_, rfl, h1, h2⟩
theorem emay_no {x : BEnt} (h : ¬ (0 ≤ x.1 ∧ x.1 < 8)) : entB x = false := by
  rw [← Bool.not_eq_true, entB_iff]; exact fun q => h q.1
theorem emay_yes {x : BEnt} (h : 0 ≤ x.1 ∧ x.1 < 8) : entB x = setB x.2 := by
  rw [Bool.eq_iff_iff, entB_iff]; exact ⟨fun q => q.2, fun q => ⟨h, q⟩⟩
set_option maxRecDepth 100000 in
theorem emay_any (w : World) (x : BEnt) (a : Option Addr) (n c : Nat) (G : Nat → Prop) (hv : WordsAt w (.slice a n c) G x.2) :
    Calls Try.prog 30 #[.agg #[.int .i64 x.1, .slice a n c]] w fun e w' => e = .returned (.bool (entB x)) ∧ Chg (fun _ => False) w w' := by
  have k1 := chg_alloc (fun _ => False) w (.cells #[.int .i64 x.1, .slice a n c] 36)
  have MAY := Lib.hid (setMay_any _ _ G x.2 (hv.chg k1 (fun _ _ e => e)))
  have YES := Lib.hid (fun h => emay_yes (x := x) h)
  have NO := Lib.hid (fun h => emay_no (x := x) h)
  have K1 := Lib.hid k1
  clear k1 hv
  generalize entB x = b at *
  obtain ⟨op, l⟩ := x
  simp only at MAY YES NO K1 ⊢
  by_cases h0 : 0 ≤ op
  · have g0 : decide (0 ≤ op) = true := decide_eq_true h0
    by_cases h1 : op < 8
    · have g1 : decide (op < 8) = true := decide_eq_true h1
      rw [← YES.out ⟨h0, h1⟩] at MAY
      clear h0 h1 YES NO
      go_enter Try.func30, Try.ntmps30
      go_wp2_with fail
      (with_reducible refine (MAY.out).mono ?_)
      rintro e w2 ⟨rfl, d2⟩
      have K2 := Lib.hid (K1.out.trans d2.chg)
      clear d2 MAY K1
      cases b
      all_goals
        go_wp2
        go_ret
        exact ⟨rfl, K2.out⟩
    · have g1 : decide (op < 8) = false := decide_eq_false h1
      obtain rfl := NO.out (fun q => h1 q.2)
      clear h0 h1 YES NO MAY
      go_enter Try.func30, Try.ntmps30
      go_wp2
      go_ret
      exact ⟨rfl, K1.out⟩
  · have g0 : decide (0 ≤ op) = false := decide_eq_false h0
    obtain rfl := NO.out (fun q => h0 q.1)
    clear h0 YES NO MAY
    go_enter Try.func30, Try.ntmps30
    go_wp2
    go_ret
    exact ⟨rfl, K1.out⟩
/-- Are entries the same? -/
def eqB (x y : BEnt) : Bool := decide (x = y)
theorem eqB_no {x y : BEnt} (h : x.1 ≠ y.1) : eqB x y = false := decide_eq_false (fun e => h (by rw [e]))
theorem eqB_yes {x y : BEnt} (h : x.1 = y.1) : eqB x y = sameB x.2 y.2 := by
  unfold eqB sameB
  rw [Bool.eq_iff_iff, decide_eq_true_eq, decide_eq_true_eq]
  exact ⟨fun e => by rw [e], fun e => Prod.ext h e⟩
set_option maxRecDepth 100000 in
theorem esame_any (w : World) (x y : BEnt) (a b : Option Addr) (n c m d : Nat) (G G' : Nat → Prop) (hv : WordsAt w (.slice a n c) G x.2) (hu : WordsAt w (.slice b m d) G' y.2) :
    Calls Try.prog 19 #[.agg #[.int .i64 x.1, .slice a n c], .agg #[.int .i64 y.1, .slice b m d]] w fun e w' => e = .returned (.bool (eqB x y)) ∧ Chg (fun _ => False) w w' := by
  have k1 := (chg_alloc (fun _ => False) w (.cells #[.int .i64 x.1, .slice a n c] 36)).alloc (.cells #[.int .i64 y.1, .slice b m d] 36)
  have EQ := Lib.hid (equal_any _ _ _ G G' x.2 y.2 (hv.chg k1 (fun _ _ e => e)) (hu.chg k1 (fun _ _ e => e)))
  have YES := Lib.hid (fun h => eqB_yes (x := x) (y := y) h)
  have NO := Lib.hid (fun h => eqB_no (x := x) (y := y) h)
  have K1 := Lib.hid k1
  clear k1 hv hu
  generalize eqB x y = r at *
  obtain ⟨op, l⟩ := x
  obtain ⟨oq, k⟩ := y
  simp only at EQ YES NO K1 ⊢
  by_cases h0 : op = oq
  · have g0 : (op == oq) = true := beq_iff_eq.2 h0
    rw [← YES.out h0] at EQ
    clear h0 YES NO
    go_enter Try.func19, Try.ntmps19
    go_wp2_with fail
    (with_reducible refine (EQ.out).mono ?_)
    rintro e w2 ⟨rfl, d2⟩
    have K2 := Lib.hid (K1.out.trans d2.chg)
    clear d2 EQ K1
    cases r
    all_goals
      go_wp2
      go_ret
      exact ⟨rfl, K2.out⟩
  · have g0 : (op == oq) = false := beq_eq_false_iff_ne.2 h0
    obtain rfl := NO.out h0
    clear h0 YES NO EQ
    go_enter Try.func19, Try.ntmps19
    go_wp2
    go_ret
    exact ⟨rfl, K1.out⟩
set_option maxRecDepth 100000 in
/-- The closure of 'find': is it the entry that lies at p? -/
theorem find1_any (w : World) (x y : BEnt) (a b : Option Addr) (n c m d p : Nat) (G G' : Nat → Prop) (hp : w.heap[p]? = some (.cells #[.int .i64 x.1, .slice a n c] 36 (0, 0))) (hv : WordsAt w (.slice a n c) G x.2) (hu : WordsAt w (.slice b m d) G' y.2) :
    Calls Try.prog 45 #[.agg #[.int .i64 y.1, .slice b m d], .pointer (some ⟨p, 0, none⟩)] w fun e w' => e = .returned (.bool (eqB x y)) ∧ Chg (fun _ => False) w w' := by
  have k1 := chg_alloc (fun _ => False) w (.cells #[.int .i64 y.1, .slice b m d] 36)
  have SA := Lib.hid (esame_any _ x y a b n c m d G G' (hv.chg k1 (fun _ _ e => e)) (hu.chg k1 (fun _ _ e => e)))
  have o1 := k1.obj (fun e => e) hp
  have c0 : (w.alloc (.cells #[.int .i64 y.1, .slice b m d] 36)).cell? ⟨p, 0, none⟩ = some (.int .i64 x.1) := cell_of o1 rfl
  have c1 : (w.alloc (.cells #[.int .i64 y.1, .slice b m d] 36)).cell? ⟨p, 1, none⟩ = some (.slice a n c) := cell_of o1 rfl
  have K1 := Lib.hid k1
  clear k1 hv hu o1 hp
  generalize eqB x y = r at *
  obtain ⟨op, l⟩ := x
  obtain ⟨oq, k⟩ := y
  simp only at SA K1 c0 c1 ⊢
  go_enter Try.func45, Try.ntmps45
  go_wp2_with fail
  (with_reducible refine (SA.out).mono ?_)
  rintro e w2 ⟨rfl, k2⟩
  go_wp2
  go_ret
  exact ⟨rfl, K1.out.trans k2⟩
/-- Where an entry stands in a list; below 0: nowhere. -/
def idxE (L : List BEnt) (x : BEnt) : Int := if x ∈ L then (L.idxOf x : Nat) else -1
set_option maxHeartbeats 1000000 in
set_option maxRecDepth 100000 in
theorem indexE_any (w : World) (v : Value) (x : BEnt) (L : List BEnt) (a : Option Addr) (n c p : Nat) (G G' : Nat → Prop) (hp : w.heap[p]? = some (.cells #[.int .i64 x.1, .slice a n c] 36 (0, 0))) (hv : WordsAt w (.slice a n c) G x.2) (hL : EntsAt w v G' L) :
    Calls Try.prog 44 #[v, .func (.func 45) #[] #[.pointer (some ⟨p, 0, none⟩)]] w fun e w' => e = .returned (.int .i64 (idxE L x)) ∧ Chg (fun _ => False) w w' := by
  obtain ⟨la, cap, rfl, hl0, hl1⟩ := hL.shape
  have HL := Lib.hid hL
  have FI := Lib.hid (fun w1 (k : Chg (fun _ => False) w w1) y b m d (hu : WordsAt w1 (.slice b m d) G' y.2) => find1_any w1 x y a b n c m d p G G' (k.obj (fun e => e) hp) (hv.chg k (fun _ _ e => e)) hu)
  unfold maxLen at hl1
  clear hL hv hp
  go_enter Try.func44, Try.ntmps44
  go_wp2
  go_loopw [8] (fun iv wr => ∃ k : Nat, k ≤ L.length ∧ iv = .int .i64 k ∧ Hid ((∀ j, j < k → L[j]? ≠ some x) ∧ Chg (fun _ => False) w wr)) (fun iv _ => L.length - (intOf iv).toNat)
  case atStart => exact ⟨0, by omega, rfl, Lib.hid ⟨fun j hj => by omega, Chg.refl _ _⟩⟩
  case round =>
    obtain ⟨k, hk, rfl, HI⟩ := hrel
    by_cases hlt : k < L.length
    · obtain ⟨y, hy⟩ : ∃ y, L[k]? = some y := ⟨_, List.getElem?_eq_getElem hlt⟩
      obtain ⟨g, o, sa, sc, rfl, _, c0, c1, hs⟩ := (HL.out.chg HI.out.2 (fun _ _ e => e)).get hy
      have F := Lib.hid (FI.out wr HI.out.2 y sa _ sc hs.at_)
      by_cases hxy : x = y
      · have hb : eqB x y = true := decide_eq_true hxy
        rw [hb] at F
        have R := Lib.hid (show idxE L x = (k : Int) by
          have := idx_at (hxy ▸ hy) HI.out.1
          unfold idxE
          rw [if_pos this.1, this.2])
        have KC := Lib.hid HI.out.2
        clear hb hy hs FI HI hxy
        obtain ⟨op, l⟩ := y
        simp only at F c0 c1
        go_wp2_with fail
        (with_reducible refine (F.out).mono ?_)
        rintro e w2 ⟨rfl, k2⟩
        go_wp2
        go_ret
        exact ⟨by rw [R.out]; rfl, KC.out.trans k2⟩
      · have hb : eqB x y = false := decide_eq_false hxy
        rw [hb] at F
        have HI2 := Lib.hid (show ∀ j, j < k + 1 → L[j]? ≠ some x from fun j hj => by
          rcases Nat.lt_or_ge j k with q | q
          · exact HI.out.1 j q
          · obtain rfl : j = k := by omega
            rw [hy]; exact fun e => hxy (Option.some.inj e).symm)
        have KC := Lib.hid HI.out.2
        clear hb hy hs HI hxy
        obtain ⟨op, l⟩ := y
        simp only at F c0 c1
        go_wp2_with fail
        (with_reducible refine (F.out).mono ?_)
        rintro e w2 ⟨rfl, k2⟩
        have K2 := Lib.hid (KC.out.trans k2)
        clear k2
        go_wp2
        go_roundw
        case rel => exact ⟨k + 1, by omega, by go_num, Lib.hid ⟨HI2.out, K2.out⟩⟩
        case measure => simp [intOf]; omega
    · obtain rfl : k = L.length := by omega
      have R := Lib.hid (show idxE L x = -1 from if_neg (idx_none HI.out.1))
      go_wp2
      go_ret
      exact ⟨by rw [R.out]; rfl, HI.out.2⟩
end Go.Proofs.Ytbjdndialiddpaa
