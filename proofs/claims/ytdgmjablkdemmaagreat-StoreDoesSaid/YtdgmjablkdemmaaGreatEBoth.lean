/-
  Package attorneylaw15: what large lets through.
  StoreDoes: what the law's walk leans on.
-/
import Derived.Test.YtdgmjablkdemmaaGreatTMk
import Derived.Test.YtdgmjablkdemmaaGreatERef1
import Derived.Test.YtdgmjablkdemmaaGreatERef2
import Derived.Test.YtdgmjablkdemmaaGreatERef4
namespace Go.Proofs.YtdgmjablkdemmaaGreat
open Go.RowKit Go.Maps

def Fit15 (c : BCert) : Prop := c.fr.length ≤ 30 ∧ c.sp.size ≤ 100 ∧ ∀ x ∈ c.fr, x.size ≤ 100
def LargeF (w : World) (c : BCert) (e : Ending) (w' : World) : Prop := ∃ b : Bool, e = .returned (.bool b) ∧ Chg (fun _ => False) w w' ∧ (b = false → Fit15 c)
set_option maxRecDepth 100000 in
theorem large15F_any (w : World) (c : BCert) (sa : Option Addr) (sc : Nat) (G : Nat → Prop) (hc : CertAt w (.slice sa c.fr.length sc) G c) :
    Calls Tryz.prog 8 #[certV c (.slice sa c.fr.length sc)] w (LargeF w c) := by
  have FIN := Lib.hid (show c.fr.length ≤ 30 → c.sp.size ≤ 100 → (∀ (j : Nat) x, j < c.fr.length → c.fr[j]? = some x → x.size ≤ 100) → Fit15 c from fun h1 h2 h3 => ⟨h1, h2, fun x hx => by
    obtain ⟨j, hj⟩ := List.mem_iff_getElem?.1 hx
    exact h3 j x (List.getElem?_eq_some_iff.1 hj).1 hj⟩)
  obtain ⟨kind, sg, sp, fr, f, t, n⟩ := c
  unfold certV
  simp only at FIN
  have hsp := hc.sp
  simp only at hc hsp ⊢
  have k0 := chg_alloc (fun _ => False) w (.cells #[.int .i64 kind, .int .u16 (sg : Int), .string sp, .slice sa fr.length sc, .int .i64 f, .int .i64 t, .int .i64 n] 34)
  have o1 := obj_alloc_new w (.cells #[.int .i64 kind, .int .u16 (sg : Int), .string sp, .slice sa fr.length sc, .int .i64 f, .int .i64 t, .int .i64 n] 34)
  have HV := Lib.hid (hc.set.at_.chg k0 (fun _ _ e => e))
  have K0 := Lib.hid k0
  have O1 := Lib.hid o1
  obtain ⟨_, _, e, hl0, _⟩ := hc.set.at_
  cases e
  unfold maxLen at hl0 hsp
  have c2 := cell_of (o := 2) o1 rfl
  have c3 := cell_of (o := 3) o1 rfl
  clear hc k0 o1
  go_enter Tryz.func8, Tryz.ntmps8
  by_cases h1 : 30 < fr.length
  · have g1 : decide (30 < (fr.length : Int)) = true := decide_eq_true (by omega)
    have g2 : decide (30 < fr.length) = true := decide_eq_true h1
    go_wp2
    go_ret
    exact ⟨true, rfl, K0.out, fun e => by cases e⟩
  have g1 : decide (30 < (fr.length : Int)) = false := decide_eq_false (by omega)
  have g2 : decide (30 < fr.length) = false := decide_eq_false h1
  by_cases h2 : 100 < sp.size
  · have g3 : decide (100 < (sp.size : Int)) = true := decide_eq_true (by omega)
    have g4 : decide (100 < sp.size) = true := decide_eq_true h2
    go_wp2
    go_ret
    exact ⟨true, rfl, K0.out, fun e => by cases e⟩
  have g3 : decide (100 < (sp.size : Int)) = false := decide_eq_false (by omega)
  have g4 : decide (100 < sp.size) = false := decide_eq_false h2
  go_wp2_with fail
  generalize w.alloc (.cells #[.int .i64 kind, .int .u16 (sg : Int), .string sp, .slice sa fr.length sc, .int .i64 f, .int .i64 t, .int .i64 n] 34) = wa at *
  go_loopw [17] (fun iv wr => ∃ k : Nat, k ≤ fr.length ∧ iv = .int .i64 k ∧ Hid (wr = wa ∧ ∀ (j : Nat) x, j < k → fr[j]? = some x → x.size ≤ 100)) (fun iv _ => fr.length - (intOf iv).toNat)
  case atStart => exact ⟨0, by omega, rfl, Lib.hid ⟨rfl, fun j x hj => by omega⟩⟩
  case round =>
    obtain ⟨k, hk, rfl, hw⟩ := hrel
    obtain ⟨hw, hall⟩ := hw.out
    have HA := Lib.hid hall
    clear hall
    subst hw
    by_cases hlt : k < fr.length
    · obtain ⟨x, hx⟩ : ∃ x, fr[k]? = some x := ⟨_, List.getElem?_eq_getElem hlt⟩
      obtain ⟨_, _, e1, _, hcl⟩ := HV.out
      cases e1
      obtain ⟨lb, lo, rfl, _, c0, _⟩ := hcl k x hx
      have HX := Lib.hid hx
      clear hcl hx
      by_cases h3 : 100 < x.size
      · have g5 : decide (100 < (x.size : Int)) = true := decide_eq_true (by omega)
        have g6 : decide (100 < x.size) = true := decide_eq_true h3
        go_wp2
        go_ret
        exact ⟨true, rfl, K0.out, fun e => by cases e⟩
      · have g5 : decide (100 < (x.size : Int)) = false := decide_eq_false (by omega)
        have g6 : decide (100 < x.size) = false := decide_eq_false h3
        have HB := Lib.hid (show ∀ (j : Nat) y, j < k + 1 → fr[j]? = some y → y.size ≤ 100 from fun j y hj hy => by
          rcases Nat.lt_or_ge j k with q | q
          · exact HA.out j y q hy
          · obtain rfl : j = k := by omega
            have := HX.out
            rw [hy] at this
            cases this
            omega)
        clear h3
        go_wp2
        go_roundw
        case rel => exact ⟨k + 1, by omega, by go_num, Lib.hid ⟨by first | trivial | rfl, HB.out⟩⟩
        case measure => simp [intOf]; omega
    · obtain rfl : k = fr.length := by omega
      go_wp2
      go_ret
      exact ⟨false, rfl, K0.out, fun _ => FIN.out (by omega) (by omega) HA.out⟩
end Go.Proofs.YtdgmjablkdemmaaGreat

namespace Go.Proofs.YtdgmjablkdemmaaGreat
open Go.RowKit Go.Maps

/-- The store and the reference's, after n acts. -/
structure Both (w0 w : World) (b rb : Nat) (B R : Nat → Prop) (s : PStore) (n : Nat) : Prop where
  st : StoreAt w b B s
  rf : RefS w rb R s
  sep : ∀ k, R k → ¬ B k
  bB : ∀ k, B k → w0.heap.size ≤ k
  bR : ∀ k, R k → w0.heap.size ≤ k
  kc : Chg (fun _ => False) w0 w
  next : s.next ≤ n
  turn : s.turn ≤ n
theorem Both.chg {w0 w w' : World} {b rb n : Nat} {B R : Nat → Prop} {s : PStore} (h : Both w0 w b rb B R s n) (hc : Chg (fun _ => False) w w') : Both w0 w' b rb B R s n :=
  ⟨h.st.chg hc (fun _ _ e => e), h.rf.chg hc (fun _ _ e => e), h.sep, h.bB, h.bR, h.kc.trans hc, h.next, h.turn⟩
theorem Both.more {w0 w : World} {b rb n m : Nat} {B R : Nat → Prop} {s : PStore} (h : Both w0 w b rb B R s n) (hm : n ≤ m) : Both w0 w b rb B R s m :=
  ⟨h.st, h.rf, h.sep, h.bB, h.bR, h.kc, Nat.le_trans h.next hm, Nat.le_trans h.turn hm⟩
theorem Both.first {w0 w1 w2 w3 : World} {b r : Nat} {B : Nat → Prop} (k1 : Chg (fun _ => False) w0 w1) (h2 : StoreAt w2 b B (newS r)) (hb : ∀ k, B k → w1.heap.size ≤ k) (k2 : Chg (fun _ => False) w1 w2) (h3 : RefS w3 w2.heap.size (fun k => k = w2.heap.size) (newS r)) (k3 : Chg (fun _ => False) w2 w3) :
    Both w0 w3 b w2.heap.size B (fun k => k = w2.heap.size) (newS r) 0 := by
  have s1 := k1.size
  have s2 := k2.size
  refine ⟨h2.chg k3 (fun _ _ e => e), h3, fun k hk e => ?_, fun k hk => ?_, fun k hk => ?_, (k1.trans k2).trans k3, Nat.le_refl _, Nat.le_refl _⟩
  · have := h2.lt e
    omega
  · have := hb k hk
    omega
  · omega
theorem Both.step {w0 w w1 w2 : World} {b rb n : Nat} {B R B1 R2 : Nat → Prop} {s s' : PStore} (h : Both w0 w b rb B R s n) (st : StoreAt w1 b B1 s') (k1 : Chg B w w1) (hB : ∀ k, B1 k → B k ∨ w.heap.size ≤ k) (rf : RefS w2 rb R2 s') (k2 : Chg R w1 w2) (hR : ∀ k, R2 k → R k ∨ w1.heap.size ≤ k)
    (hn : s'.next ≤ n + 1) (ht : s'.turn ≤ n + 1) : Both w0 w2 b rb B1 R2 s' (n + 1) := by
  have z0 := h.kc.size
  have z1 := k1.size
  refine ⟨st.chg k2 (fun k hk e => ?_), rf, fun k hk e => ?_, fun k hk => ?_, fun k hk => ?_, (h.kc.next k1 (fun i hi e => ?_)).next k2 (fun i hi e => ?_), hn, ht⟩
  · rcases hB k hk with q | q
    · exact h.sep k e q
    · have := h.rf.lt e
      omega
  · rcases hR k hk with q | q
    · rcases hB k e with q2 | q2
      · exact h.sep k q q2
      · have := h.rf.lt q
        omega
    · have := st.lt e
      omega
  · rcases hB k hk with q | q
    · exact h.bB k q
    · omega
  · rcases hR k hk with q | q
    · exact h.bR k q
    · omega
  · have := h.bB i e
    omega
  · have := h.bR i e
    omega
theorem cells_set {w : World} {g : Nat} {cs : Array Value} {ty : TypeId} (h : w.heap[g]? = some (.cells cs ty (0, 0))) (o : Nat) (v : Value) : ∃ cs', (w.setCell ⟨g, o, none⟩ v).heap[g]? = some (.cells cs' ty (0, 0)) ∧ cs'.size = cs.size := ⟨_, obj_setCell h v, by simp⟩
theorem cells_cell {w : World} {g : Nat} {cs : Array Value} {ty : TypeId} (h : w.heap[g]? = some (.cells cs ty (0, 0))) {o : Nat} (ho : o < cs.size) : ∃ v, w.cell? ⟨g, o, none⟩ = some v := ⟨cs[o], cell_of h (Array.getElem?_eq_getElem ho)⟩
theorem own_row1 {w : World} {base : Nat} {e : TypeId} {n c : Nat} {a : Option Addr} {xs : List Value} (h : w.ownsRow base e 1 (.slice a n c) n xs) (hn : 0 < n) : ∃ g cs, a = some ⟨g, 0, none⟩ ∧ base ≤ g ∧ w.heap[g]? = some (.cells cs e (0, 0)) ∧ n ≤ cs.size := by
  obtain ⟨_, ⟨_, q⟩ | ⟨g, cap, cur, q, hb, hh, h1, _, h3, _⟩⟩ := h
  · omega
  · cases q
    exact ⟨g, cur, rfl, hb, hh, by omega⟩
theorem Both.write {S : Nat → Prop} {w0 w w' : World} {b rb n : Nat} {B R : Nat → Prop} {s : PStore} (h : Both w0 w b rb B R s n) (hc : Chg S w w') (hs : ∀ k, S k → ¬ B k ∧ ¬ R k) (hb : ∀ k, S k → w0.heap.size ≤ k) : Both w0 w' b rb B R s n :=
  ⟨h.st.chg hc (fun k hk e => (hs k e).1 hk), h.rf.chg hc (fun k hk e => (hs k e).2 hk), h.sep, h.bB, h.bR, h.kc.next hc (fun i hi e => by have := hb i e; omega), h.next, h.turn⟩
theorem putS_le (s : PStore) (c : BCert) : (putS s c).2.2.next ≤ s.next + 1 ∧ (putS s c).2.2.turn ≤ s.turn + 1 := by
  unfold putS PStore.plus
  split
  · split
    · exact ⟨Nat.le_succ _, Nat.le_succ _⟩
    · split
      · exact ⟨Nat.le_succ _, Nat.le_succ _⟩
      · exact ⟨Nat.le_refl _, Nat.le_refl _⟩
  · exact ⟨Nat.le_succ _, Nat.le_succ _⟩
theorem sweepS_le (s : PStore) (t : Int) : (sweepS s t).next ≤ s.next + 1 ∧ (sweepS s t).turn ≤ s.turn + 1 := by
  refine ⟨Nat.le_succ _, ?_⟩
  show (if 0 < (s.gone t).length then s.turn + 1 else s.turn) ≤ s.turn + 1
  split <;> omega
theorem CertAt.sizes {w : World} {v : Value} {G : Nat → Prop} {c : BCert} (h : CertAt w v G c) : ∀ x ∈ c.fr, x.size ≤ maxLen := fun x hx => by
  obtain ⟨la, cap, _, _, hc⟩ := h.set.at_
  obtain ⟨j, hj⟩ := List.mem_iff_getElem?.1 hx
  obtain ⟨_, _, _, _, _, q⟩ := hc j x hj
  exact q
/-- The rows that Certs tell, from the j-th on. -/
structure Look (w0 wr : World) (v u : Value) (xs ys : List (BCert × Value)) (R : Nat → Prop) (base j : Nat) : Prop where
  a : wr.ownsRow base 34 7 v xs.length (ccells xs)
  ent : ∀ i p, j ≤ i → xs[i]? = some p → wr.ownsRow base 23 1 p.2 p.1.fr.length (wcells p.1.fr)
  sep : xs.Pairwise (fun p q => ∀ k, p.2.ownBlock = some k → q.2.ownBlock ≠ some k)
  b : wr.ownsRow base 34 7 u ys.length (ccells ys)
  sets : Sets15 wr R ys
  low : ∀ k, R k → k < base
  ch : Chg (fun _ => False) w0 wr
  hb : w0.heap.size ≤ base
theorem Look.chg {w0 wr w' : World} {v u : Value} {xs ys : List (BCert × Value)} {R : Nat → Prop} {base j : Nat} (h : Look w0 wr v u xs ys R base j) (k : Chg (fun _ => False) wr w') : Look w0 w' v u xs ys R base j :=
  ⟨own_chg h.a k (fun _ _ e => e), fun i p hi hp => own_chg (h.ent i p hi hp) k (fun _ _ e => e), h.sep, own_chg h.b k (fun _ _ e => e), h.sets.chg k (fun _ _ e => e), h.low, h.ch.trans k, h.hb⟩
theorem pw_get {α : Type} {P : α → α → Prop} {l : List α} (h : l.Pairwise P) {i j : Nat} {a b : α} (hi : l[i]? = some a) (hj : l[j]? = some b) (hij : i < j) : P a b := by
  obtain ⟨h1, e1⟩ := List.getElem?_eq_some_iff.1 hi
  obtain ⟨h2, e2⟩ := List.getElem?_eq_some_iff.1 hj
  have := List.pairwise_iff_getElem.1 h i j h1 h2 hij
  rw [e1, e2] at this
  exact this
theorem Look.write {w0 wr : World} {v u x : Value} {xs ys : List (BCert × Value)} {R : Nat → Prop} {base j g o n c : Nat} {p : BCert × Value} (h : Look w0 wr v u xs ys R base j) (hj : xs[j]? = some p) (e : p.2 = .slice (some ⟨g, 0, none⟩) n c) : Look w0 (wr.setCell ⟨g, o, none⟩ x) v u xs ys R base (j + 1) := by
  have kc := chg_cell wr g o x
  have ho := h.ent j p (Nat.le_refl _) hj
  have hg : p.2.ownBlock = some g := by rw [e]; rfl
  obtain ⟨cs, q⟩ := own_cells ho hg
  have hlt := ho.lt g hg
  refine ⟨own_chg h.a kc (fun k hk => ?_), fun i r hi hr => own_chg (h.ent i r (by omega) hr) kc (fun k hk => ?_), h.sep, own_chg h.b kc (fun k hk => ?_), h.sets.chg kc (fun k hk => ?_), h.low, h.ch.next kc (fun k hk e2 => ?_), h.hb⟩
  · obtain ⟨ds, q2⟩ := own_cells h.a hk
    exact ty_ne q2 q (by decide)
  · intro e2
    subst e2
    exact pw_get h.sep hj hr (by omega) k hg hk
  · obtain ⟨ds, q2⟩ := own_cells h.b hk
    exact ty_ne q2 q (by decide)
  · have := h.low k hk
    omega
  · have := h.hb
    omega
theorem map_get {α β : Type} {xs ys : List (α × β)} (e : xs.map Prod.fst = ys.map Prod.fst) {j : Nat} {p : α × β} (hj : xs[j]? = some p) : ∃ q, ys[j]? = some (p.1, q) := by
  have := congrArg (fun l => l[j]?) e
  simp only [List.getElem?_map, hj, Option.map_some] at this
  cases hq : ys[j]? with
  | none => rw [hq] at this; cases this
  | some q =>
    rw [hq] at this
    have e2 : p.1 = q.1 := Option.some.inj this
    exact ⟨q.2, by rw [e2]⟩
end Go.Proofs.YtdgmjablkdemmaaGreat
