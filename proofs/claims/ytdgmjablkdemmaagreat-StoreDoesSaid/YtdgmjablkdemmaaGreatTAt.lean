/-
  A store in memory.
-/
import Derived.Test.YtdgmjablkdemmaaGreatTPlain
namespace Go.Proofs.YtdgmjablkdemmaaGreat
open Go.RowKit Go.Maps

structure Locs where
  b : Nat
  mN : Nat
  mB : Nat
  mW : Nat
structure Fns where
  fN : Lit → Option Value
  fB : Lit → Option Value
  fW : Lit → Option Value
def wlit (x : ByteArray) : Lit := .string x.data.toList
theorem wlit_inj {x y : ByteArray} (h : wlit x = wlit y) : x = y := by
  unfold wlit at h
  exact bytes_ext (by injection h)
/-- The rows of numbers, by words. -/
structure WordIn (w : World) (mW nW : Nat) (fW : Lit → Option Value) (ab : ByteArray → List Nat) : Prop where
  map : MapV Tryz.prog 23 w mW nW fW
  rowS : ∀ x, ab x ≠ [] → ∃ v, fW (wlit x) = some v ∧ w.ownsRow 0 3 1 v (ab x).length (ints (ab x))
  rowN : ∀ x, ab x = [] → fW (wlit x) = none
  inj : ∀ x y v u k, fW (wlit x) = some v → fW (wlit y) = some u → v.ownBlock = some k → u.ownBlock = some k → x = y
/-- The blocks of rows. -/
def RowB (fW : Lit → Option Value) (k : Nat) : Prop := ∃ x v, fW (wlit x) = some v ∧ v.ownBlock = some k
theorem WordIn.row {w : World} {mW nW : Nat} {fW : Lit → Option Value} {ab : ByteArray → List Nat} (h : WordIn w mW nW fW ab) {x : ByteArray} {v : Value} (hv : fW (wlit x) = some v) : w.ownsRow 0 3 1 v (ab x).length (ints (ab x)) ∧ ab x ≠ [] := by
  by_cases hx : ab x = []
  · rw [h.rowN x hx] at hv; cases hv
  · obtain ⟨v', e, q⟩ := h.rowS x hx
    rw [hv] at e; cases e
    exact ⟨q, hx⟩
theorem WordIn.chg {S : Nat → Prop} {w w' : World} {mW nW : Nat} {fW : Lit → Option Value} {ab : ByteArray → List Nat} (h : WordIn w mW nW fW ab) (hc : Chg S w w') (h1 : ¬ S mW) (h2 : ∀ k, RowB fW k → ¬ S k) : WordIn w' mW nW fW ab :=
  ⟨h.map.chg hc h1, fun x hx => by
    obtain ⟨v, e, q⟩ := h.rowS x hx
    exact ⟨v, e, own_chg q hc (fun k hk => h2 k ⟨x, v, e, hk⟩)⟩, h.rowN, h.inj⟩
open Classical in
noncomputable def updA (ab : ByteArray → List Nat) (x : ByteArray) (l : List Nat) : ByteArray → List Nat := fun y => if y = x then l else ab y
theorem updA_same (ab : ByteArray → List Nat) (x : ByteArray) (l : List Nat) : updA ab x l x = l := if_pos rfl
theorem updA_other (ab : ByteArray → List Nat) {x y : ByteArray} (h : y ≠ x) (l : List Nat) : updA ab x l y = ab y := if_neg h
/-- A row written anew. -/
theorem WordIn.put {w w5 w6 : World} {mW nW n' : Nat} {fW : Lit → Option Value} {ab : ByteArray → List Nat} (h : WordIn w mW nW fW ab) {x : ByteArray} {v v5 : Value} {l : List Nat} (hl : l ≠ [])
    (hv : (fW (wlit x)).getD (.slice none 0 0) = v) (hg : Chg (fun k => v.ownBlock = some k) w w5) (ho : w5.ownsRow 0 3 1 v5 l.length (ints l)) (hn : v5.ownBlock = v.ownBlock ∨ ∀ k, v5.ownBlock = some k → w.heap.size ≤ k)
    (hm : MapV Tryz.prog 23 w6 mW n' (putV fW (wlit x) (some v5))) (hc : Chg (· = mW) w5 w6) : WordIn w6 mW n' (putV fW (wlit x) (some v5)) (updA ab x l) := by
  have own5 : ∀ k, v5.ownBlock = some k → k ≠ mW := fun k hk e => by
    obtain ⟨cs, q⟩ := own_cells ho hk
    have hne : ¬ (v.ownBlock = some mW) := fun e2 => by
      cases hx : fW (wlit x) with
      | none => rw [hx] at hv; subst hv; cases e2
      | some v' =>
        rw [hx] at hv
        obtain rfl : v' = v := hv
        obtain ⟨cs', q'⟩ := own_cells (h.row hx).1 e2
        exact h.map.ne_cells q' rfl
    exact (h.map.chg hg hne).ne_cells q e
  have low : ∀ y u k, fW (wlit y) = some u → u.ownBlock = some k → k < w.heap.size := fun y u k hu hk => ((h.row hu).1.lt k hk).2
  have apart : ∀ y u k, y ≠ x → fW (wlit y) = some u → u.ownBlock = some k → v5.ownBlock = some k → False := by
    intro y u k hy hu hk h5
    rcases hn with e | e
    · rw [e] at h5
      cases hx : fW (wlit x) with
      | none => rw [hx] at hv; subst hv; cases h5
      | some v' =>
        rw [hx] at hv
        obtain rfl : v' = v := hv
        exact hy (h.inj y x u v' k hu hx hk h5)
    · have := e k h5
      have := low y u k hu hk
      omega
  refine ⟨hm, fun y hy => ?_, fun y hy => ?_, fun y z u t k hu ht hk hk2 => ?_⟩
  · by_cases e : y = x
    · subst e
      rw [updA_same]
      exact ⟨v5, putV_same _ _ _, own_chg ho hc (fun k hk e => own5 k hk e)⟩
    · rw [updA_other _ e] at hy ⊢
      obtain ⟨u, hu, q⟩ := h.rowS y hy
      refine ⟨u, by rw [putV_other _ (fun q => e (wlit_inj q))]; exact hu, own_chg (own_chg q hg (fun k hk hv' => ?_)) hc (fun k hk e2 => ?_)⟩
      · cases hx : fW (wlit x) with
        | none => rw [hx] at hv; subst hv; cases hv'
        | some v' =>
          rw [hx] at hv
          obtain rfl : v' = v := hv
          exact e (h.inj y x u v' k hu hx hk hv')
      · obtain ⟨cs, q2⟩ := own_cells q hk
        exact h.map.ne_cells q2 e2
  · by_cases e : y = x
    · subst e
      rw [updA_same] at hy
      exact absurd hy hl
    · rw [updA_other _ e] at hy
      rw [putV_other _ (fun q => e (wlit_inj q))]
      exact h.rowN y hy
  · by_cases e1 : y = x <;> by_cases e2 : z = x
    · rw [e1, e2]
    · subst e1
      rw [putV_same] at hu
      cases hu
      rw [putV_other _ (fun q => e2 (wlit_inj q))] at ht
      exact (apart z t k e2 ht hk2 hk).elim
    · subst e2
      rw [putV_same] at ht
      cases ht
      rw [putV_other _ (fun q => e1 (wlit_inj q))] at hu
      exact (apart y u k e1 hu hk hk2).elim
    · rw [putV_other _ (fun q => e1 (wlit_inj q))] at hu
      rw [putV_other _ (fun q => e2 (wlit_inj q))] at ht
      exact h.inj y z u t k hu ht hk hk2
/-- A row gone. -/
theorem WordIn.del {w w5 w6 : World} {mW nW n' : Nat} {fW : Lit → Option Value} {ab : ByteArray → List Nat} (h : WordIn w mW nW fW ab) {x : ByteArray} {v : Value}
    (hv : (fW (wlit x)).getD (.slice none 0 0) = v) (hg : Chg (fun k => v.ownBlock = some k) w w5)
    (hm : MapV Tryz.prog 23 w6 mW n' (putV fW (wlit x) none)) (hc : Chg (· = mW) w5 w6) : WordIn w6 mW n' (putV fW (wlit x) none) (updA ab x []) := by
  refine ⟨hm, fun y hy => ?_, fun y hy => ?_, fun y z u t k hu ht hk hk2 => ?_⟩
  · by_cases e : y = x
    · subst e
      rw [updA_same] at hy
      exact absurd rfl hy
    · rw [updA_other _ e] at hy ⊢
      obtain ⟨u, hu, q⟩ := h.rowS y hy
      refine ⟨u, by rw [putV_other _ (fun q => e (wlit_inj q))]; exact hu, own_chg (own_chg q hg (fun k hk hv' => ?_)) hc (fun k hk e2 => ?_)⟩
      · cases hx : fW (wlit x) with
        | none => rw [hx] at hv; subst hv; cases hv'
        | some v' =>
          rw [hx] at hv
          obtain rfl : v' = v := hv
          exact e (h.inj y x u v' k hu hx hk hv')
      · obtain ⟨cs, q2⟩ := own_cells q hk
        exact h.map.ne_cells q2 e2
  · by_cases e : y = x
    · subst e
      exact putV_same _ _ _
    · rw [updA_other _ e] at hy
      rw [putV_other _ (fun q => e (wlit_inj q))]
      exact h.rowN y hy
  · by_cases e1 : y = x
    · subst e1
      rw [putV_same] at hu
      cases hu
    · by_cases e2 : z = x
      · subst e2
        rw [putV_same] at ht
        cases ht
      · rw [putV_other _ (fun q => e1 (wlit_inj q))] at hu
        rw [putV_other _ (fun q => e2 (wlit_inj q))] at ht
        exact h.inj y z u t k hu ht hk hk2
/-- What blocks rows have behind a change. -/
theorem rowB_put {fW : Lit → Option Value} {x : ByteArray} {v5 : Value} {k : Nat} (h : RowB (putV fW (wlit x) (some v5)) k) : RowB fW k ∨ v5.ownBlock = some k := by
  obtain ⟨y, u, hu, hk⟩ := h
  by_cases e : y = x
  · subst e
    rw [putV_same] at hu
    cases hu
    exact .inr hk
  · rw [putV_other _ (fun q => e (wlit_inj q))] at hu
    exact .inl ⟨y, u, hu, hk⟩
theorem rowB_del {fW : Lit → Option Value} {x : ByteArray} {k : Nat} (h : RowB (putV fW (wlit x) none) k) : RowB fW k := by
  obtain ⟨y, u, hu, hk⟩ := h
  by_cases e : y = x
  · subst e
    rw [putV_same] at hu
    cases hu
  · rw [putV_other _ (fun q => e (wlit_inj q))] at hu
    exact ⟨y, u, hu, hk⟩
theorem updA_self {ab ab' : ByteArray → List Nat} {x : ByteArray} {l : List Nat} (h1 : ab' x = l) (h2 : ∀ y, y ≠ x → ab' y = ab y) : updA ab x l = ab' := by
  funext y
  by_cases e : y = x
  · subst e; rw [updA_same, h1]
  · rw [updA_other _ e, h2 y e]
/-! the whole -/
def storeCells (s : PStore) (L : Locs) : Array Value := #[.int .i64 (s.room : Int), .int .i64 (s.next : Int), .int .i64 (s.turn : Int), .map (some L.mN), .map (some L.mB), .map (some L.mW)]
/-- The certificates, by numbers. -/
structure NumIn (w : World) (mN : Nat) (fN : Lit → Option Value) (C : Nat → Prop) (s : PStore) : Prop where
  map : MapV Tryz.prog 3 w mN s.certs.length fN
  noneS : ∀ x, s.get x = none → fN (.int .i64 x) = none
  someS : ∀ x c, s.get x = some c → ∃ sa sc, fN (.int .i64 x) = some (certV c (.slice sa c.fr.length sc)) ∧ CertAt w (.slice sa c.fr.length sc) C c
  typ : ∀ k, C k → ∃ cs, w.heap[k]? = some (.cells cs 23 (0, 0))
structure ByteIn (w : World) (mB : Nat) (fB : Lit → Option Value) (s : PStore) : Prop where
  map : MapV Tryz.prog 9 w mB s.certs.length fB
  says : ∀ y, fB (.string y) = (s.numOf y).map (fun i => .int .i64 (i : Int))
structure StoreIn (w : World) (L : Locs) (F : Fns) (nW : Nat) (C : Nat → Prop) (s : PStore) : Prop where
  own : w.heap[L.b]? = some (.cells (storeCells s L) 80 (0, 0))
  num : NumIn w L.mN F.fN C s
  byt : ByteIn w L.mB F.fB s
  wrd : WordIn w L.mW nW F.fW s.about
  d1 : L.mN ≠ L.mB
  d2 : L.mN ≠ L.mW
  d3 : L.mB ≠ L.mW
  bnd : nW ≤ 16 * s.next
def Mut (L : Locs) (F : Fns) (k : Nat) : Prop := k = L.b ∨ k = L.mN ∨ k = L.mB ∨ k = L.mW ∨ RowB F.fW k
theorem NumIn.chg {S : Nat → Prop} {w w' : World} {mN : Nat} {fN : Lit → Option Value} {C : Nat → Prop} {s : PStore} (h : NumIn w mN fN C s) (hc : Chg S w w') (h1 : ¬ S mN) (h2 : ∀ k, C k → ¬ S k) : NumIn w' mN fN C s :=
  ⟨h.map.chg hc h1, h.noneS, fun x c hx => by
    obtain ⟨sa, sc, e, q⟩ := h.someS x c hx
    exact ⟨sa, sc, e, q.chg hc h2⟩, fun k hk => by
    obtain ⟨cs, q⟩ := h.typ k hk
    exact ⟨cs, hc.obj (h2 k hk) q⟩⟩
theorem ByteIn.chg {S : Nat → Prop} {w w' : World} {mB : Nat} {fB : Lit → Option Value} {s : PStore} (h : ByteIn w mB fB s) (hc : Chg S w w') (h1 : ¬ S mB) : ByteIn w' mB fB s := ⟨h.map.chg hc h1, h.says⟩
theorem StoreIn.chg {S : Nat → Prop} {w w' : World} {L : Locs} {F : Fns} {nW : Nat} {C : Nat → Prop} {s : PStore} (h : StoreIn w L F nW C s) (hc : Chg S w w') (hs : ∀ k, Mut L F k ∨ C k → ¬ S k) : StoreIn w' L F nW C s :=
  ⟨hc.obj (hs _ (.inl (.inl rfl))) h.own, h.num.chg hc (hs _ (.inl (.inr (.inl rfl)))) (fun k hk => hs k (.inr hk)), h.byt.chg hc (hs _ (.inl (.inr (.inr (.inl rfl))))), h.wrd.chg hc (hs _ (.inl (.inr (.inr (.inr (.inl rfl)))))) (fun k hk => hs k (.inl (.inr (.inr (.inr (.inr hk)))))), h.d1, h.d2, h.d3, h.bnd⟩
theorem StoreIn.lt {w : World} {L : Locs} {F : Fns} {nW : Nat} {C : Nat → Prop} {s : PStore} (h : StoreIn w L F nW C s) {k : Nat} (hk : Mut L F k ∨ C k) : k < w.heap.size := by
  rcases hk with (rfl | rfl | rfl | rfl | ⟨x, v, hv, hk⟩) | hk
  · exact lt_of_obj h.own
  · exact h.num.map.lt
  · exact h.byt.map.lt
  · exact h.wrd.map.lt
  · exact ((h.wrd.row hv).1.lt k hk).2
  · obtain ⟨cs, q⟩ := h.num.typ k hk
    exact lt_of_obj q
/-- Store s at block b; B are its blocks. -/
def StoreAt (w : World) (b : Nat) (B : Nat → Prop) (s : PStore) : Prop :=
  ∃ L F nW C, L.b = b ∧ StoreIn w L F nW C s ∧ PInv s ∧ (∀ k, Mut L F k ∨ C k → B k) ∧ ∀ k, B k → k < w.heap.size
theorem StoreAt.chg {S : Nat → Prop} {w w' : World} {b : Nat} {B : Nat → Prop} {s : PStore} (h : StoreAt w b B s) (hc : Chg S w w') (hs : ∀ k, B k → ¬ S k) : StoreAt w' b B s := by
  obtain ⟨L, F, nW, C, e, h1, h2, h3, h4⟩ := h
  exact ⟨L, F, nW, C, e, h1.chg hc (fun k hk => hs k (h3 k hk)), h2, h3, fun k hk => Nat.lt_of_lt_of_le (h4 k hk) hc.size⟩
theorem StoreAt.inv {w : World} {b : Nat} {B : Nat → Prop} {s : PStore} (h : StoreAt w b B s) : PInv s := by
  obtain ⟨L, F, nW, C, e, h1, h2, h3, h4⟩ := h
  exact h2
theorem StoreAt.lt {w : World} {b : Nat} {B : Nat → Prop} {s : PStore} (h : StoreAt w b B s) {k : Nat} (hk : B k) : k < w.heap.size := by
  obtain ⟨L, F, nW, C, e, h1, h2, h3, h4⟩ := h
  exact h4 k hk
theorem Tryz.intKeyed : Keyed Tryz.prog 3 := int_keyed Tryz.underlying3
theorem Tryz.strKeyed : Keyed Tryz.prog 9 := string_keyed Tryz.underlying9
theorem ikey_of (x : Int) (h1 : -9223372036854775808 ≤ x) (h2 : x ≤ 9223372036854775807) : keyOf Tryz.prog 3 (.int .i64 x) = some (.int .i64 x) :=
  keyOf_int_mk Tryz.underlying3 (by simp only [Lit.wf, Bool.and_eq_true, decide_eq_true_eq]; exact ⟨h1, h2⟩)
theorem skey_of (s : ByteArray) (h : s.size ≤ maxLen) : keyOf Tryz.prog 9 (.string s) = some (.string s.data.toList) := WideMaps.keyOf_string_mk Tryz.underlying9 h
def zeroC : BCert := ⟨0, 0, ⟨#[]⟩, [], 0, 0, 0⟩
theorem Tryz.zeroCert (w : World) : (zeroValue 34).run Tryz.prog w = .ok (certV zeroC (.slice none 0 0)) w := by
  unfold certV zeroC
  kernel_rfl
theorem Tryz.zeroInts (w : World) : (zeroValue 42).run Tryz.prog w = .ok (.slice none 0 0) w := by kernel_rfl
end Go.Proofs.YtdgmjablkdemmaaGreat
