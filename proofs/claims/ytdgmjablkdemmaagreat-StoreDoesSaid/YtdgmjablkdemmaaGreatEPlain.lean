/-
  The reference's store in memory; what a store tells, in plain Lean.
  The reference's store, a step at a time.
-/
import Derived.Test.YtdgmjablkdemmaaGreatTAwake
namespace Go.Proofs.YtdgmjablkdemmaaGreat
open Go.RowKit Go.Maps

theorem CertAt.up15 {w : World} {v : Value} {G G' : Nat → Prop} {c : BCert} (h : CertAt w v G c) (hg : ∀ k, G k → G' k) : CertAt w v G' c := ⟨h.set.up hg, h.sp, h.sg⟩
def Sets15 (w : World) (G : Nat → Prop) (xs : List (BCert × Value)) : Prop := ∀ p ∈ xs, ∃ sa sc, p.2 = .slice sa p.1.fr.length sc ∧ CertAt w (.slice sa p.1.fr.length sc) G p.1
theorem Sets15.chg {S : Nat → Prop} {w w' : World} {G : Nat → Prop} {xs : List (BCert × Value)} (h : Sets15 w G xs) (hc : Chg S w w') (hs : ∀ k, G k → ¬ S k) : Sets15 w' G xs := fun p hp => by
  obtain ⟨sa, sc, e, q⟩ := h p hp
  exact ⟨sa, sc, e, q.chg hc hs⟩
theorem Sets15.up {w : World} {G G' : Nat → Prop} {xs : List (BCert × Value)} (h : Sets15 w G xs) (hg : ∀ k, G k → G' k) : Sets15 w G' xs := fun p hp => by
  obtain ⟨sa, sc, e, q⟩ := h p hp
  exact ⟨sa, sc, e, q.up15 hg⟩
theorem Sets15.snoc {w : World} {G : Nat → Prop} {xs : List (BCert × Value)} {c : BCert} {sa : Option Addr} {sc : Nat} (h : Sets15 w G xs) (hc : CertAt w (.slice sa c.fr.length sc) G c) : Sets15 w G (xs ++ [(c, .slice sa c.fr.length sc)]) := fun p hp => by
  rcases List.mem_append.1 hp with q | q
  · exact h p q
  · rw [List.mem_singleton] at q
    subst q
    exact ⟨sa, sc, rfl, hc⟩
theorem ccells_get : ∀ {P : List (BCert × Value)} {j : Nat} {p : BCert × Value}, P[j]? = some p → ∀ q, q < 7 → (ccells P)[j * 7 + q]? = ([.int .i64 p.1.kind, .int .u16 (p.1.sg : Int), .string p.1.sp, p.2, .int .i64 p.1.f, .int .i64 p.1.t, .int .i64 p.1.n] : List Value)[q]?
  | p :: P, 0, r, h, q, hq => by
    simp at h
    subst h
    rw [ccells, List.getElem?_append_left (by simp; omega)]; simp
  | p :: P, j + 1, r, h, q, hq => by
    rw [ccells, List.getElem?_append_right (by simp; omega)]
    have := ccells_get (P := P) (j := j) (by simpa using h) q hq
    rw [← this]
    congr 1
    simp; omega
theorem Sets15.one {w : World} {G : Nat → Prop} {xs : List (BCert × Value)} (h : Sets15 w G xs) : ∀ v ∈ ccells xs, v.oneCell' = true := by
  induction xs with
  | nil => intro v hv; cases hv
  | cons p r ih =>
    intro v hv
    rw [ccells] at hv
    rcases List.mem_append.1 hv with q | q
    · obtain ⟨sa, sc, e, _⟩ := h p List.mem_cons_self
      simp only [List.mem_cons, List.not_mem_nil, or_false] at q
      rcases q with rfl | rfl | rfl | rfl | rfl | rfl | rfl <;> first | rfl | (rw [e]; rfl)
    · exact ih (fun q hq => h q (List.mem_cons_of_mem _ hq)) v q
/-- One certificate of a row. -/
theorem row_cert {w : World} {base : Nat} {a : Option Addr} {n cap : Nat} {xs : List (BCert × Value)} (h : w.ownsRow base 34 7 (.slice a n cap) xs.length (ccells xs)) {j : Nat} {p : BCert × Value} (hj : xs[j]? = some p) :
    ∃ g, a = some ⟨g, 0, none⟩ ∧ w.cell? ⟨g, j * 7, none⟩ = some (.int .i64 p.1.kind) ∧ w.cell? ⟨g, j * 7 + 1, none⟩ = some (.int .u16 (p.1.sg : Int)) ∧ w.cell? ⟨g, j * 7 + 2, none⟩ = some (.string p.1.sp) ∧ w.cell? ⟨g, j * 7 + 3, none⟩ = some p.2 ∧ w.cell? ⟨g, j * 7 + 4, none⟩ = some (.int .i64 p.1.f) ∧ w.cell? ⟨g, j * 7 + 5, none⟩ = some (.int .i64 p.1.t) ∧ w.cell? ⟨g, j * 7 + 6, none⟩ = some (.int .i64 p.1.n) := by
  have hjl := (List.getElem?_eq_some_iff.1 hj).1
  obtain ⟨a', cap', e⟩ := own_shape h
  cases e
  obtain ⟨g, rfl⟩ := own_some h (by omega)
  have key : ∀ q, q < 7 → w.cell? ⟨g, j * 7 + q, none⟩ = ([.int .i64 p.1.kind, .int .u16 (p.1.sg : Int), .string p.1.sp, p.2, .int .i64 p.1.f, .int .i64 p.1.t, .int .i64 p.1.n] : List Value)[q]? := fun q hq => by
    have hl := ccells_len xs
    rw [h.cellAt (j := j * 7 + q) (by omega)]
    exact ccells_get hj q hq
  exact ⟨g, rfl, key 0 (by decide), key 1 (by decide), key 2 (by decide), key 3 (by decide), key 4 (by decide), key 5 (by decide), key 6 (by decide)⟩
theorem row_int {w : World} {base : Nat} {a : Option Addr} {n cap : Nat} {l : List Nat} (h : w.ownsRow base 3 1 (.slice a n cap) l.length (ints l)) {j x : Nat} (hj : l[j]? = some x) : ∃ g, a = some ⟨g, 0, none⟩ ∧ w.cell? ⟨g, j, none⟩ = some (.int .i64 (x : Int)) := by
  obtain ⟨_, _, e1, _, hc⟩ := own_get h
  cases e1
  obtain ⟨g, rfl, _, c⟩ := hc j (.int .i64 (x : Int)) (by unfold ints; rw [List.getElem?_map, hj]; rfl)
  exact ⟨g, rfl, c⟩
/-- The reference's store s at block b. -/
structure RefIn (w : World) (b : Nat) (cv nv : Value) (xs : List (BCert × Value)) (G : Nat → Prop) (s : PStore) : Prop where
  own : w.heap[b]? = some (.cells #[cv, nv, .int .i64 (s.room : Int), .int .i64 (s.next : Int), .int .i64 (s.turn : Int)] 53 (0, 0))
  eq : xs.map Prod.fst = s.certs.map Prod.snd
  rowC : w.ownsRow 0 34 7 cv xs.length (ccells xs)
  rowN : w.ownsRow 0 3 1 nv (s.certs.map Prod.fst).length (ints (s.certs.map Prod.fst))
  sets : Sets15 w G xs
  typ : ∀ k, G k → ∃ cs, w.heap[k]? = some (.cells cs 23 (0, 0))
def RefB (b : Nat) (cv nv : Value) (G : Nat → Prop) (k : Nat) : Prop := k = b ∨ cv.ownBlock = some k ∨ nv.ownBlock = some k ∨ G k
def RefS (w : World) (b : Nat) (R : Nat → Prop) (s : PStore) : Prop :=
  ∃ cv nv xs G, RefIn w b cv nv xs G s ∧ PInv s ∧ (∀ k, RefB b cv nv G k → R k) ∧ ∀ k, R k → k < w.heap.size
theorem RefIn.chg {S : Nat → Prop} {w w' : World} {b : Nat} {cv nv : Value} {xs : List (BCert × Value)} {G : Nat → Prop} {s : PStore} (h : RefIn w b cv nv xs G s) (hc : Chg S w w') (hs : ∀ k, RefB b cv nv G k → ¬ S k) : RefIn w' b cv nv xs G s :=
  ⟨hc.obj (hs _ (.inl rfl)) h.own, h.eq, own_chg h.rowC hc (fun k hk => hs k (.inr (.inl hk))), own_chg h.rowN hc (fun k hk => hs k (.inr (.inr (.inl hk)))), h.sets.chg hc (fun k hk => hs k (.inr (.inr (.inr hk)))), fun k hk => by
    obtain ⟨cs, q⟩ := h.typ k hk
    exact ⟨cs, hc.obj (hs k (.inr (.inr (.inr hk)))) q⟩⟩
theorem RefIn.len {w : World} {b : Nat} {cv nv : Value} {xs : List (BCert × Value)} {G : Nat → Prop} {s : PStore} (h : RefIn w b cv nv xs G s) : xs.length = s.certs.length := by
  have := congrArg List.length h.eq
  simpa using this
theorem RefIn.at_ {w : World} {b : Nat} {cv nv : Value} {xs : List (BCert × Value)} {G : Nat → Prop} {s : PStore} (h : RefIn w b cv nv xs G s) {j : Nat} {p : Nat × BCert} (hj : s.certs[j]? = some p) :
    ∃ sa sc, xs[j]? = some (p.2, .slice sa p.2.fr.length sc) ∧ CertAt w (.slice sa p.2.fr.length sc) G p.2 := by
  have hl := h.len
  have hjl := (List.getElem?_eq_some_iff.1 hj).1
  have hx : xs[j]? = some xs[j] := List.getElem?_eq_getElem (by omega)
  have e := congrArg (fun l => l[j]?) h.eq
  simp only [List.getElem?_map] at e
  rw [hx, hj] at e
  simp at e
  obtain ⟨sa, sc, e2, q⟩ := h.sets _ (List.mem_of_getElem? hx)
  rw [e] at e2 q
  exact ⟨sa, sc, by rw [hx]; congr 1; exact Prod.ext e e2, q⟩
theorem RefS.chg {S : Nat → Prop} {w w' : World} {b : Nat} {R : Nat → Prop} {s : PStore} (h : RefS w b R s) (hc : Chg S w w') (hs : ∀ k, R k → ¬ S k) : RefS w' b R s := by
  obtain ⟨cv, nv, xs, G, h1, h2, h3, h4⟩ := h
  exact ⟨cv, nv, xs, G, h1.chg hc (fun k hk => hs k (h3 k hk)), h2, h3, fun k hk => Nat.lt_of_lt_of_le (h4 k hk) hc.size⟩
theorem RefS.inv {w : World} {b : Nat} {R : Nat → Prop} {s : PStore} (h : RefS w b R s) : PInv s := by
  obtain ⟨cv, nv, xs, G, h1, h2, h3, h4⟩ := h
  exact h2
theorem RefS.lt {w : World} {b : Nat} {R : Nat → Prop} {s : PStore} (h : RefS w b R s) {k : Nat} (hk : R k) : k < w.heap.size := by
  obtain ⟨cv, nv, xs, G, h1, h2, h3, h4⟩ := h
  exact h4 k hk
theorem RefS.open {w : World} {b : Nat} {R : Nat → Prop} {s : PStore} (h : RefS w b R s) : ∃ ca cc na nc xs G, RefIn w b (.slice ca s.certs.length cc) (.slice na s.certs.length nc) xs G s ∧ (∀ k, RefB b (.slice ca s.certs.length cc) (.slice na s.certs.length nc) G k → R k) := by
  obtain ⟨cv, nv, xs, G, h1, h2, h3, h4⟩ := h
  obtain ⟨ca, cc, rfl⟩ := own_shape h1.rowC
  obtain ⟨na, nc, rfl⟩ := own_shape h1.rowN
  have e := h1.len
  rw [e] at h1 h3
  rw [List.length_map] at h1 h3
  exact ⟨ca, cc, na, nc, xs, G, h1, h3⟩
theorem RefIn.item {w : World} {b n m cc nc : Nat} {ca na : Option Addr} {xs : List (BCert × Value)} {G : Nat → Prop} {s : PStore} (h : RefIn w b (.slice ca n cc) (.slice na m nc) xs G s) {j i : Nat} {c : BCert} (hj : s.certs[j]? = some (i, c)) :
    ∃ g f sa sc, ca = some ⟨g, 0, none⟩ ∧ na = some ⟨f, 0, none⟩ ∧ w.cell? ⟨f, j, none⟩ = some (.int .i64 (i : Int)) ∧ w.cell? ⟨g, j * 7, none⟩ = some (.int .i64 c.kind) ∧ w.cell? ⟨g, j * 7 + 1, none⟩ = some (.int .u16 (c.sg : Int)) ∧ w.cell? ⟨g, j * 7 + 2, none⟩ = some (.string c.sp) ∧ w.cell? ⟨g, j * 7 + 3, none⟩ = some (.slice sa c.fr.length sc) ∧ w.cell? ⟨g, j * 7 + 4, none⟩ = some (.int .i64 c.f) ∧ w.cell? ⟨g, j * 7 + 5, none⟩ = some (.int .i64 c.t) ∧ w.cell? ⟨g, j * 7 + 6, none⟩ = some (.int .i64 c.n) ∧ CertAt w (.slice sa c.fr.length sc) G c := by
  obtain ⟨sa, sc, hx, hc⟩ := h.at_ hj
  obtain ⟨g, rfl, q0, q1, q2, q3, q4, q5, q6⟩ := row_cert h.rowC hx
  obtain ⟨f, rfl, q7⟩ := row_int h.rowN (j := j) (x := i) (by rw [List.getElem?_map, hj]; rfl)
  exact ⟨g, f, sa, sc, rfl, rfl, q7, q0, q1, q2, q3, q4, q5, q6, hc⟩
/-! what is told -/
theorem Best.uniq {P : Int → Prop} {t n m : Int} {a b : Bool} (h : Best P t n a) (g : Best P t m b) : n = m ∧ a = b := by
  cases a with
  | true =>
    obtain ⟨h1, h2⟩ := h.yes rfl
    obtain ⟨q1, q2⟩ := g.all n h2 h1
    obtain ⟨g1, g2⟩ := g.yes q1
    obtain ⟨_, q4⟩ := h.all m g2 g1
    exact ⟨by omega, q1.symm⟩
  | false =>
    cases b with
    | true =>
      obtain ⟨g1, g2⟩ := g.yes rfl
      have := (h.all m g2 g1).1
      cases this
    | false => exact ⟨by rw [h.no rfl, g.no rfl], rfl⟩
theorem certsOf_which {s : PStore} (h : PInv s) (p : BCert → Bool) : s.certsOf (s.which p) = (s.certs.filter (fun q => p q.2)).map Prod.snd := by
  unfold PStore.certsOf PStore.which
  have : ∀ (l : List (Nat × BCert)), (∀ q ∈ l, q ∈ s.certs) → (l.map Prod.fst).filterMap (fun (i : Nat) => s.get (i : Int)) = l.map Prod.snd := by
    intro l
    induction l with
    | nil => intro _; rfl
    | cons a l ih =>
      intro hl
      rw [List.map_cons, List.filterMap_cons, h.get_mem (hl a List.mem_cons_self), List.map_cons, ih (fun q hq => hl q (List.mem_cons_of_mem _ hq))]
  exact this _ (fun q hq => (List.mem_filter.1 hq).1)
/-- The first k certificates of a store. -/
def PStore.firsts (s : PStore) (k : Nat) : PStore := ⟨s.room, s.next, s.turn, s.certs.take k⟩
theorem firsts_all (s : PStore) : s.firsts s.certs.length = s := by
  unfold PStore.firsts
  rw [List.take_length]
theorem firsts_succ {s : PStore} {k : Nat} {p : Nat × BCert} (hk : s.certs[k]? = some p) : (s.firsts (k + 1)).certs = (s.firsts k).certs ++ [p] := by
  unfold PStore.firsts
  obtain ⟨h1, h2⟩ := List.getElem?_eq_some_iff.1 hk
  simp only
  rw [List.take_add_one, hk]; rfl
theorem which_yes {s : PStore} {k i : Nat} {c : BCert} (q : BCert → Bool) (hk : s.certs[k]? = some (i, c)) (hq : q c = true) : (s.firsts (k + 1)).which q = (s.firsts k).which q ++ [i] := by
  unfold PStore.which
  rw [firsts_succ hk, List.filter_append, List.map_append]
  simp [hq]
theorem which_no {s : PStore} {k i : Nat} {c : BCert} (q : BCert → Bool) (hk : s.certs[k]? = some (i, c)) (hq : q c = false) : (s.firsts (k + 1)).which q = (s.firsts k).which q := by
  unfold PStore.which
  rw [firsts_succ hk, List.filter_append, List.map_append]
  simp [hq]
theorem which_about (s : PStore) (x : ByteArray) : s.about x = s.which (fun c => hasB c.fr x) := by
  unfold PStore.about PStore.which hasB
  rfl
theorem filt_yes {s : PStore} {k i : Nat} {c : BCert} (q : BCert → Bool) (hk : s.certs[k]? = some (i, c)) (hq : q c = true) : (s.firsts (k + 1)).certs.filter (fun p => q p.2) = (s.firsts k).certs.filter (fun p => q p.2) ++ [(i, c)] := by
  rw [firsts_succ hk, List.filter_append]
  simp [hq]
theorem filt_no {s : PStore} {k i : Nat} {c : BCert} (q : BCert → Bool) (hk : s.certs[k]? = some (i, c)) (hq : q c = false) : (s.firsts (k + 1)).certs.filter (fun p => q p.2) = (s.firsts k).certs.filter (fun p => q p.2) := by
  rw [firsts_succ hk, List.filter_append]
  simp [hq]
theorem borders_succ {s : PStore} {k i : Nat} {c : BCert} (hk : s.certs[k]? = some (i, c)) (x : Int) : Borders (s.firsts (k + 1)) x ↔ (Borders (s.firsts k) x ∨ x = c.f) ∨ x = c.t + 1 := by
  unfold Borders
  rw [firsts_succ hk]
  constructor
  · rintro ⟨q, hq, hb⟩
    rcases List.mem_append.1 hq with e | e
    · exact .inl (.inl ⟨q, e, hb⟩)
    · rw [List.mem_singleton] at e
      subst e
      rcases hb with hb | hb
      · exact .inl (.inr hb)
      · exact .inr hb
  · rintro ((⟨q, hq, hb⟩ | e) | e)
    · exact ⟨q, List.mem_append_left _ hq, hb⟩
    · exact ⟨_, List.mem_append_right _ (List.mem_singleton.2 rfl), .inl e⟩
    · exact ⟨_, List.mem_append_right _ (List.mem_singleton.2 rfl), .inr e⟩
end Go.Proofs.YtdgmjablkdemmaaGreat

namespace Go.Proofs.YtdgmjablkdemmaaGreat
open Go.RowKit Go.Maps

structure RefC (w : World) (b : Nat) (cv nv : Value) (xs : List (BCert × Value)) (nl : List Nat) (G : Nat → Prop) (x2 x3 x4 : Int) : Prop where
  own : w.heap[b]? = some (.cells #[cv, nv, .int .i64 x2, .int .i64 x3, .int .i64 x4] 53 (0, 0))
  rowC : w.ownsRow 0 34 7 cv xs.length (ccells xs)
  rowN : w.ownsRow 0 3 1 nv nl.length (ints nl)
  sets : Sets15 w G xs
  typ : ∀ k, G k → ∃ cs, w.heap[k]? = some (.cells cs 23 (0, 0))
theorem RefIn.toC {w : World} {b : Nat} {cv nv : Value} {xs : List (BCert × Value)} {G : Nat → Prop} {s : PStore} (h : RefIn w b cv nv xs G s) : RefC w b cv nv xs (s.certs.map Prod.fst) G s.room s.next s.turn :=
  ⟨h.own, h.rowC, h.rowN, h.sets, h.typ⟩
theorem RefC.chg {S : Nat → Prop} {w w' : World} {b : Nat} {cv nv : Value} {xs : List (BCert × Value)} {nl : List Nat} {G : Nat → Prop} {x2 x3 x4 : Int} (h : RefC w b cv nv xs nl G x2 x3 x4) (hc : Chg S w w') (hs : ∀ k, RefB b cv nv G k → ¬ S k) : RefC w' b cv nv xs nl G x2 x3 x4 :=
  ⟨hc.obj (hs _ (.inl rfl)) h.own, own_chg h.rowC hc (fun k hk => hs k (.inr (.inl hk))), own_chg h.rowN hc (fun k hk => hs k (.inr (.inr (.inl hk)))), h.sets.chg hc (fun k hk => hs k (.inr (.inr (.inr hk)))), fun k hk => by
    obtain ⟨cs, q⟩ := h.typ k hk
    exact ⟨cs, hc.obj (hs k (.inr (.inr (.inr hk)))) q⟩⟩
structure Apart5 (b : Nat) (cv nv : Value) (G : Nat → Prop) : Prop where
  cb : ∀ k, cv.ownBlock = some k → k ≠ b
  nb : ∀ k, nv.ownBlock = some k → k ≠ b
  gb : ∀ k, G k → k ≠ b
  cn : ∀ k, cv.ownBlock = some k → nv.ownBlock ≠ some k
  cg : ∀ k, cv.ownBlock = some k → ¬ G k
  ng : ∀ k, nv.ownBlock = some k → ¬ G k
theorem RefC.apart {w : World} {b : Nat} {cv nv : Value} {xs : List (BCert × Value)} {nl : List Nat} {G : Nat → Prop} {x2 x3 x4 : Int} (h : RefC w b cv nv xs nl G x2 x3 x4) : Apart5 b cv nv G := by
  refine ⟨fun k hk e => ?_, fun k hk e => ?_, fun k hk e => ?_, fun k hk e => ?_, fun k hk e => ?_, fun k hk e => ?_⟩
  · obtain ⟨cs, q⟩ := own_cells h.rowC hk
    exact ty_ne q h.own (by decide) e
  · obtain ⟨cs, q⟩ := own_cells h.rowN hk
    exact ty_ne q h.own (by decide) e
  · obtain ⟨cs, q⟩ := h.typ k hk
    exact ty_ne q h.own (by decide) e
  · obtain ⟨cs, q⟩ := own_cells h.rowC hk
    obtain ⟨ds, q2⟩ := own_cells h.rowN e
    exact ty_ne q q2 (by decide) rfl
  · obtain ⟨cs, q⟩ := own_cells h.rowC hk
    obtain ⟨ds, q2⟩ := h.typ k e
    exact ty_ne q q2 (by decide) rfl
  · obtain ⟨cs, q⟩ := own_cells h.rowN hk
    obtain ⟨ds, q2⟩ := h.typ k e
    exact ty_ne q q2 (by decide) rfl
theorem RefC.pushC {w w' : World} {b : Nat} {cv nv cv' : Value} {xs : List (BCert × Value)} {nl : List Nat} {G : Nat → Prop} {x2 x3 x4 : Int} {c : BCert} {sa : Option Addr} {sc : Nat} (h : RefC w b cv nv xs nl G x2 x3 x4)
    (hc : CertAt w (.slice sa c.fr.length sc) (fun k => (Value.slice sa c.fr.length sc).ownBlock = some k) c) (ht : ∀ k, (Value.slice sa c.fr.length sc).ownBlock = some k → ∃ cs, w.heap[k]? = some (.cells cs 23 (0, 0)))
    (hg : w.grownBy w' cv.ownBlock) (ho : w'.ownsRow 0 34 7 cv' (xs.length + 1) (ccells xs ++ [.int .i64 c.kind, .int .u16 (c.sg : Int), .string c.sp, .slice sa c.fr.length sc, .int .i64 c.f, .int .i64 c.t, .int .i64 c.n])) :
    RefC (w'.setCell ⟨b, 0, none⟩ cv') b cv' nv (xs ++ [(c, .slice sa c.fr.length sc)]) nl (fun k => G k ∨ (Value.slice sa c.fr.length sc).ownBlock = some k) x2 x3 x4 ∧ Chg (fun k => k = b ∨ cv.ownBlock = some k) w (w'.setCell ⟨b, 0, none⟩ cv') := by
  have A := h.apart
  have kg := Chg.of_grown hg
  have kc := chg_cell w' b 0 cv'
  have ow := kg.obj (fun e => A.cb _ e rfl) h.own
  have nof : ∀ k, (Value.slice sa c.fr.length sc).ownBlock = some k → ¬ cv.ownBlock = some k := fun k hk e => by
    obtain ⟨cs, q⟩ := ht k hk
    obtain ⟨ds, q2⟩ := own_cells h.rowC e
    exact ty_ne q q2 (by decide) rfl
  have nob : ∀ k, (Value.slice sa c.fr.length sc).ownBlock = some k → k ≠ b := fun k hk e => by
    obtain ⟨cs, q⟩ := ht k hk
    exact ty_ne q h.own (by decide) e
  refine ⟨⟨obj_setCell (o := 0) ow cv', ?_, own_chg (own_chg h.rowN kg (fun k hk e => A.cn k e hk)) kc (fun k hk => A.nb k hk), ?_, fun k hk => ?_⟩, ?_⟩
  · rw [ccells_append, List.length_append]
    exact own_chg ho kc (fun k hk e => by
      obtain ⟨cs, q⟩ := own_cells ho hk
      exact ty_ne q ow (by decide) e)
  · refine Sets15.snoc ?_ ?_
    · exact ((h.sets.chg kg (fun k hk e => A.cg k e hk)).chg kc (fun k hk => A.gb k hk)).up (fun _ q => .inl q)
    · exact ((hc.chg kg (fun k hk e => nof k hk e)).chg kc (fun k hk => nob k hk)).up15 (fun _ q => .inr q)
  · rcases hk with hk | hk
    · obtain ⟨cs, q⟩ := h.typ k hk
      exact ⟨cs, kc.obj (A.gb k hk) (kg.obj (fun e => A.cg k e hk) q)⟩
    · obtain ⟨cs, q⟩ := ht k hk
      exact ⟨cs, kc.obj (nob k hk) (kg.obj (nof k hk) q)⟩
  · exact (kg.mono (fun k _ e => .inr e)).trans (kc.mono (fun k _ e => .inl e))
theorem RefC.pushN {w w' : World} {b i : Nat} {cv nv nv' : Value} {xs : List (BCert × Value)} {nl : List Nat} {G : Nat → Prop} {x2 x3 x4 : Int} (h : RefC w b cv nv xs nl G x2 x3 x4)
    (hg : w.grownBy w' nv.ownBlock) (ho : w'.ownsRow 0 3 1 nv' (nl.length + 1) (ints nl ++ [.int .i64 (i : Int)])) :
    RefC (w'.setCell ⟨b, 1, none⟩ nv') b cv nv' xs (nl ++ [i]) G x2 x3 x4 ∧ Chg (fun k => k = b ∨ nv.ownBlock = some k) w (w'.setCell ⟨b, 1, none⟩ nv') := by
  have A := h.apart
  have kg := Chg.of_grown hg
  have kc := chg_cell w' b 1 nv'
  have ow := kg.obj (fun e => A.nb _ e rfl) h.own
  refine ⟨⟨obj_setCell (o := 1) ow nv', own_chg (own_chg h.rowC kg (fun k hk e => A.cn k hk e)) kc (fun k hk => A.cb k hk), ?_, (h.sets.chg kg (fun k hk e => A.ng k e hk)).chg kc (fun k hk => A.gb k hk), fun k hk => ?_⟩, ?_⟩
  · rw [List.length_append]
    have e : ints (nl ++ [i]) = ints nl ++ [.int .i64 (i : Int)] := by simp [ints]
    rw [e]
    exact own_chg ho kc (fun k hk e => by
      obtain ⟨cs, q⟩ := own_cells ho hk
      exact ty_ne q ow (by decide) e)
  · obtain ⟨cs, q⟩ := h.typ k hk
    exact ⟨cs, kc.obj (A.gb k hk) (kg.obj (fun e => A.ng k e hk) q)⟩
  · exact (kg.mono (fun k _ e => .inr e)).trans (kc.mono (fun k _ e => .inl e))
theorem RefC.nums {w W : World} {b : Nat} {cv nv : Value} {xs : List (BCert × Value)} {nl : List Nat} {G : Nat → Prop} {x2 x3 x4 : Int} (h : RefC w b cv nv xs nl G x2 x3 x4) (y3 y4 : Int) (hW : W = (w.setCell ⟨b, 3, none⟩ (.int .i64 y3)).setCell ⟨b, 4, none⟩ (.int .i64 y4)) :
    RefC W b cv nv xs nl G x2 y3 y4 ∧ Chg (fun k => k = b) w W := by
  subst hW
  have A := h.apart
  have kc := (chg_cell w b 3 (.int .i64 y3)).trans (chg_cell (w.setCell ⟨b, 3, none⟩ (.int .i64 y3)) b 4 (.int .i64 y4))
  refine ⟨⟨obj_setCell (o := 4) (obj_setCell (o := 3) h.own (.int .i64 y3)) (.int .i64 y4), own_chg h.rowC kc (fun k hk => A.cb k hk), own_chg h.rowN kc (fun k hk => A.nb k hk), h.sets.chg kc (fun k hk => A.gb k hk), fun k hk => ?_⟩, kc⟩
  obtain ⟨cs, q⟩ := h.typ k hk
  exact ⟨cs, kc.obj (A.gb k hk) q⟩
theorem RefC.toIn {w : World} {b : Nat} {cv nv : Value} {xs : List (BCert × Value)} {nl : List Nat} {G : Nat → Prop} {s : PStore} {x2 x3 x4 : Int} (h : RefC w b cv nv xs nl G x2 x3 x4) (h2 : x2 = s.room) (h3 : x3 = s.next) (h4 : x4 = s.turn) (e1 : xs.map Prod.fst = s.certs.map Prod.snd) (e2 : nl = s.certs.map Prod.fst) : RefIn w b cv nv xs G s := by
  subst h2 h3 h4 e2
  exact ⟨h.own, e1, h.rowC, h.rowN, h.sets, h.typ⟩
/-- Sweep, on the way. -/
structure SwIn (w wr : World) (gv cv nv : Value) (gl nl : List Nat) (ys : List (BCert × Value)) (G : Nat → Prop) : Prop where
  rg : wr.ownsRow w.heap.size 3 1 gv gl.length (ints gl)
  rc : wr.ownsRow w.heap.size 34 7 cv ys.length (ccells ys)
  rn : wr.ownsRow w.heap.size 3 1 nv nl.length (ints nl)
  sets : Sets15 wr G ys
  ap : ∀ k, gv.ownBlock = some k → nv.ownBlock ≠ some k
  ch : Chg (fun _ => False) w wr
theorem SwIn.cg {w wr : World} {gv cv nv : Value} {gl nl : List Nat} {ys : List (BCert × Value)} {G : Nat → Prop} (h : SwIn w wr gv cv nv gl nl ys G) : ∀ k, cv.ownBlock = some k → ¬ gv.ownBlock = some k := fun k hk e => by
  obtain ⟨cs, q⟩ := own_cells h.rc hk
  obtain ⟨ds, q2⟩ := own_cells h.rg e
  exact ty_ne q q2 (by decide) rfl
theorem SwIn.cn {w wr : World} {gv cv nv : Value} {gl nl : List Nat} {ys : List (BCert × Value)} {G : Nat → Prop} (h : SwIn w wr gv cv nv gl nl ys G) : ∀ k, cv.ownBlock = some k → ¬ nv.ownBlock = some k := fun k hk e => by
  obtain ⟨cs, q⟩ := own_cells h.rc hk
  obtain ⟨ds, q2⟩ := own_cells h.rn e
  exact ty_ne q q2 (by decide) rfl
theorem SwIn.alloc {w wr : World} {gv cv nv : Value} {gl nl : List Nat} {ys : List (BCert × Value)} {G : Nat → Prop} (h : SwIn w wr gv cv nv gl nl ys G) (o : Obj) : SwIn w (wr.alloc o) gv cv nv gl nl ys G := by
  have k := chg_alloc (fun _ => False) wr o
  exact ⟨own_chg h.rg k (fun _ _ e => e), own_chg h.rc k (fun _ _ e => e), own_chg h.rn k (fun _ _ e => e), h.sets.chg k (fun _ _ e => e), h.ap, h.ch.trans k⟩
theorem SwIn.gone {w wr w' : World} {gv cv nv gv' : Value} {gl nl : List Nat} {ys : List (BCert × Value)} {G : Nat → Prop} {i : Nat} (h : SwIn w wr gv cv nv gl nl ys G) (hG : ∀ k, G k → k < w.heap.size) (hg : wr.grownBy w' gv.ownBlock) (sn : SameOrNew wr gv gv')
    (ho : w'.ownsRow w.heap.size 3 1 gv' (gl.length + 1) (ints gl ++ [.int .i64 (i : Int)])) : SwIn w w' gv' cv nv (gl ++ [i]) nl ys G := by
  have kg := Chg.of_grown hg
  refine ⟨?_, own_chg h.rc kg (fun k hk e => h.cg k hk e), own_chg h.rn kg (fun k hk e => h.ap k e hk), h.sets.chg kg (fun k hk e => ?_), fun k hk e => ?_, h.ch.next kg (fun k hk e => ?_)⟩
  · rw [List.length_append]
    have e : ints (gl ++ [i]) = ints gl ++ [.int .i64 (i : Int)] := by simp [ints]
    rw [e]; exact ho
  · have := (h.rg.lt k e).1
    have := hG k hk
    omega
  · rcases sn with q | q
    · exact h.ap k (by rw [← q]; exact hk) e
    · have := q k hk
      have := (h.rn.lt k e).2
      omega
  · have := (h.rg.lt k e).1
    omega
theorem SwIn.keepC {w wr w' : World} {gv cv nv cv' : Value} {gl nl : List Nat} {ys : List (BCert × Value)} {G : Nat → Prop} {c : BCert} {sa : Option Addr} {sc : Nat} (h : SwIn w wr gv cv nv gl nl ys G) (hG : ∀ k, G k → k < w.heap.size) (hc : CertAt wr (.slice sa c.fr.length sc) G c) (hg : wr.grownBy w' cv.ownBlock)
    (ho : w'.ownsRow w.heap.size 34 7 cv' (ys.length + 1) (ccells ys ++ [.int .i64 c.kind, .int .u16 (c.sg : Int), .string c.sp, .slice sa c.fr.length sc, .int .i64 c.f, .int .i64 c.t, .int .i64 c.n])) : SwIn w w' gv cv' nv gl nl (ys ++ [(c, .slice sa c.fr.length sc)]) G := by
  have kg := Chg.of_grown hg
  have gn : ∀ k, G k → ¬ cv.ownBlock = some k := fun k hk e => by
    have := (h.rc.lt k e).1
    have := hG k hk
    omega
  refine ⟨own_chg h.rg kg (fun k hk e => h.cg k e hk), ?_, own_chg h.rn kg (fun k hk e => h.cn k e hk), (h.sets.chg kg gn).snoc (hc.chg kg gn), h.ap, h.ch.next kg (fun k hk e => ?_)⟩
  · rw [ccells_append, List.length_append]
    exact ho
  · have := (h.rc.lt k e).1
    omega
theorem SwIn.keepN {w wr w' : World} {gv cv nv nv' : Value} {gl nl : List Nat} {ys : List (BCert × Value)} {G : Nat → Prop} {i : Nat} (h : SwIn w wr gv cv nv gl nl ys G) (hG : ∀ k, G k → k < w.heap.size) (hg : wr.grownBy w' nv.ownBlock) (sn : SameOrNew wr nv nv')
    (ho : w'.ownsRow w.heap.size 3 1 nv' (nl.length + 1) (ints nl ++ [.int .i64 (i : Int)])) : SwIn w w' gv cv nv' gl (nl ++ [i]) ys G := by
  have kg := Chg.of_grown hg
  refine ⟨own_chg h.rg kg (fun k hk e => h.ap k hk e), own_chg h.rc kg (fun k hk e => h.cn k hk e), ?_, h.sets.chg kg (fun k hk e => ?_), fun k hk e => ?_, h.ch.next kg (fun k hk e => ?_)⟩
  · rw [List.length_append]
    have e : ints (nl ++ [i]) = ints nl ++ [.int .i64 (i : Int)] := by simp [ints]
    rw [e]; exact ho
  · have := (h.rn.lt k e).1
    have := hG k hk
    omega
  · rcases sn with q | q
    · exact h.ap k hk (by rw [← q]; exact e)
    · have := q k e
      have := (h.rg.lt k hk).2
      omega
  · have := (h.rn.lt k e).1
    omega
theorem ref_swept {w wr W : World} {b : Nat} {gv cv nv cv0 nv0 : Value} {R G : Nat → Prop} {s s' : PStore} {xs ys : List (BCert × Value)} {gl nl : List Nat} (h1 : RefIn w b cv0 nv0 xs G s) (hi : PInv s') (hR : ∀ k, RefB b cv0 nv0 G k → R k) (hRl : ∀ k, R k → k < w.heap.size)
    (sw : SwIn w wr gv cv nv gl nl ys G) (e1 : ys.map Prod.fst = s'.certs.map Prod.snd) (e2 : nl = s'.certs.map Prod.fst)
    (ho : W.heap[b]? = some (.cells #[cv, nv, .int .i64 (s'.room : Int), .int .i64 (s'.next : Int), .int .i64 (s'.turn : Int)] 53 (0, 0))) (hc : Chg (fun k => k = b) wr W) :
    RefS W b (fun k => R k ∨ (w.heap.size ≤ k ∧ k < W.heap.size)) s' ∧ Chg R w W ∧ W.ownsRow w.heap.size 3 1 gv gl.length (ints gl) := by
  have hb : b < w.heap.size := lt_of_obj h1.own
  have A := h1.toC.apart
  have ne : ∀ {k : Nat}, w.heap.size ≤ k → ¬ k = b := fun hk e => by omega
  subst e2
  refine ⟨⟨cv, nv, ys, G, ⟨ho, e1, own_base (own_chg sw.rc hc (fun k hk => ne (sw.rc.lt k hk).1)) (Nat.zero_le _), own_base (own_chg sw.rn hc (fun k hk => ne (sw.rn.lt k hk).1)) (Nat.zero_le _), sw.sets.chg hc (fun k hk => A.gb k hk), fun k hk => ?_⟩, hi, ?_, ?_⟩, ?_, own_chg sw.rg hc (fun k hk => ne (sw.rg.lt k hk).1)⟩
  · obtain ⟨cs, q⟩ := h1.typ k hk
    exact ⟨cs, hc.obj (A.gb k hk) (sw.ch.obj (fun e => e) q)⟩
  · rintro k (e | e | e | e)
    · exact .inl (hR k (.inl e))
    · exact .inr ⟨(sw.rc.lt k e).1, Nat.lt_of_lt_of_le (sw.rc.lt k e).2 hc.size⟩
    · exact .inr ⟨(sw.rn.lt k e).1, Nat.lt_of_lt_of_le (sw.rn.lt k e).2 hc.size⟩
    · exact .inl (hR k (.inr (.inr (.inr e))))
  · rintro k (e | e)
    · have := hRl k e
      have := sw.ch.size
      have := hc.size
      omega
    · exact e.2
  · exact (sw.ch.mono (T := R) (fun _ _ e => e.elim)).next hc (fun k _ e => by rw [e]; exact hR b (.inl rfl))
end Go.Proofs.YtdgmjablkdemmaaGreat
