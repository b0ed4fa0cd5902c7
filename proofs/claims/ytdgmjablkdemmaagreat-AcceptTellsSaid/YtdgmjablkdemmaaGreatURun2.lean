/-
  Package accept: what Run answers, apart; rows of certificates.
-/
import Derived.Test.YtdgmjablkdemmaaGreatURun
namespace Go.Proofs.YtdgmjablkdemmaaGreat
open Go.RowKit Go.Maps

def pcells (p : BCert × Value) : List Value := [.int .i64 p.1.kind, .int .u16 (p.1.sg : Int), .string p.1.sp, p.2, .int .i64 p.1.f, .int .i64 p.1.t, .int .i64 p.1.n]
def pcellsL (P : List (BCert × Value)) : List Value := P.flatMap pcells
theorem pcellsL_append (P Q : List (BCert × Value)) : pcellsL (P ++ Q) = pcellsL P ++ pcellsL Q := by unfold pcellsL; rw [List.flatMap_append]
theorem pcellsL_length (P : List (BCert × Value)) : (pcellsL P).length = P.length * 7 := by
  induction P with
  | nil => rfl
  | cons p P ih =>
    have : pcellsL (p :: P) = pcells p ++ pcellsL P := rfl
    rw [this, List.length_append, ih]
    simp [pcells]; omega
theorem pcellsL_get : ∀ {P : List (BCert × Value)} {j : Nat} {p : BCert × Value}, P[j]? = some p → ∀ q, q < 7 → (pcellsL P)[j * 7 + q]? = (pcells p)[q]?
  | p :: P, 0, r, h, q, hq => by
    simp at h
    subst h
    have : pcellsL (p :: P) = pcells p ++ pcellsL P := rfl
    rw [this, List.getElem?_append_left (by simp [pcells]; omega)]; simp
  | p :: P, j + 1, r, h, q, hq => by
    have : pcellsL (p :: P) = pcells p ++ pcellsL P := rfl
    rw [this, List.getElem?_append_right (by simp [pcells]; omega)]
    have := pcellsL_get (P := P) (j := j) (by simpa using h) q hq
    rw [← this]
    congr 1
    simp [pcells]; omega
def Sets7 (w : World) (G : Nat → Prop) (P : List (BCert × Value)) : Prop := ∀ p ∈ P, ∃ sa sc, p.2 = .slice sa p.1.fr.length sc ∧ CertAt w (.slice sa p.1.fr.length sc) G p.1
theorem Sets7.chg {S : Nat → Prop} {w w' : World} {G : Nat → Prop} {P : List (BCert × Value)} (h : Sets7 w G P) (hc : Chg S w w') (hs : ∀ k, G k → ¬ S k) : Sets7 w' G P := fun p hp => by
  obtain ⟨sa, sc, e, q⟩ := h p hp
  exact ⟨sa, sc, e, q.chg hc hs⟩
theorem Sets7.up {w : World} {G G' : Nat → Prop} {P : List (BCert × Value)} (h : Sets7 w G P) (hg : ∀ k, G k → G' k) : Sets7 w G' P := fun p hp => by
  obtain ⟨sa, sc, e, q⟩ := h p hp
  exact ⟨sa, sc, e, q.up hg⟩
theorem Sets7.append {w : World} {G : Nat → Prop} {P Q : List (BCert × Value)} (h : Sets7 w G P) (h' : Sets7 w G Q) : Sets7 w G (P ++ Q) := fun p hp => by
  rcases List.mem_append.1 hp with q | q
  · exact h p q
  · exact h' p q
theorem CertsAt.sets {w : World} {v : Value} {G : Nat → Prop} {P : List (BCert × Value)} (h : CertsAt w v G P) : Sets7 w G P := fun p hp => by
  obtain ⟨la, cap, _, _, h3⟩ := h
  obtain ⟨j, hj⟩ := List.mem_iff_getElem?.1 hp
  obtain ⟨_, _, sa, sc, _, _, q3, _, _, _, _, _, _, _, q11⟩ := h3 j p hj
  exact ⟨sa, sc, q3, q11⟩
theorem Sets7.one {w : World} {G : Nat → Prop} {P : List (BCert × Value)} (h : Sets7 w G P) : ∀ v ∈ pcellsL P, v.oneCell' = true := by
  intro v hv
  unfold pcellsL at hv
  obtain ⟨p, hp, hv⟩ := List.mem_flatMap.1 hv
  obtain ⟨sa, sc, e, _⟩ := h p hp
  simp only [pcells, List.mem_cons, List.not_mem_nil, or_false] at hv
  rcases hv with rfl | rfl | rfl | rfl | rfl | rfl | rfl <;> first | rfl | (rw [e]; rfl)
theorem certsAt_own {w : World} {base : Nat} {v : Value} {G : Nat → Prop} {P : List (BCert × Value)} (h : w.ownsRow base 34 7 v P.length (pcellsL P)) (hs : Sets7 w G P) : CertsAt w v (fun k => G k ∨ v.ownBlock = some k) P := by
  have h0 := h
  obtain ⟨h1, ⟨rfl, h2⟩ | ⟨g, cap, cur, rfl, hg, hh, q1, q2, q3, q4⟩⟩ := h
  · refine ⟨none, 0, by rw [h2], by rw [h2]; unfold maxLen; omega, fun j x hj => ?_⟩
    have : j < P.length := (List.getElem?_eq_some_iff.1 hj).1
    omega
  · refine ⟨_, cap, rfl, by omega, fun j p hj => ?_⟩
    have hjl := (List.getElem?_eq_some_iff.1 hj).1
    obtain ⟨sa, sc, e, hc⟩ := hs p (List.mem_of_getElem? hj)
    have key : ∀ q, q < 7 → w.cell? ⟨g, 0 + j * 7 + q, none⟩ = (pcells p)[q]? := fun q hq => by
      rw [Nat.zero_add, h0.cellAt (j := j * 7 + q) (by omega)]
      exact pcellsL_get hj q hq
    refine ⟨g, 0, sa, sc, rfl, .inr rfl, e, key 0 (by decide), key 1 (by decide), key 2 (by decide), ?_, key 4 (by decide), key 5 (by decide), key 6 (by decide), hc.up (fun _ q => .inl q)⟩
    rw [← e]
    exact key 3 (by decide)
theorem certs_src {w : World} {la : Option Addr} {n cap : Nat} {G : Nat → Prop} {P : List (BCert × Value)} (h : CertsAt w (.slice la n cap) G P) : ∀ (j : Nat) u, (pcellsL P)[j]? = some u → ∃ g o, la = some ⟨g, o, none⟩ ∧ w.cell? ⟨g, o + j, none⟩ = some u := by
  obtain ⟨la', cap', e, _, hc⟩ := h
  cases e
  intro j u hj
  have hjl := (List.getElem?_eq_some_iff.1 hj).1
  rw [pcellsL_length] at hjl
  have hk : j / 7 < P.length := by omega
  obtain ⟨p, hp⟩ : ∃ p, P[j / 7]? = some p := ⟨_, List.getElem?_eq_getElem hk⟩
  obtain ⟨g, o, sa, sc, e1, _, e3, c0, c1, c2, c3, c4, c5, c6, _⟩ := hc _ p hp
  refine ⟨g, o, e1, ?_⟩
  have hq := pcellsL_get hp (j % 7) (Nat.mod_lt _ (by decide))
  have ej : j / 7 * 7 + j % 7 = j := by omega
  rw [ej, hj] at hq
  rw [show o + j = o + j / 7 * 7 + j % 7 from by omega]
  have hm := Nat.mod_lt j (show 0 < 7 by decide)
  generalize j % 7 = m at *
  generalize o + j / 7 * 7 = z at *
  rw [← e3] at c3
  rcases (by omega : m = 0 ∨ m = 1 ∨ m = 2 ∨ m = 3 ∨ m = 4 ∨ m = 5 ∨ m = 6) with rfl | rfl | rfl | rfl | rfl | rfl | rfl
  all_goals
    simp [pcells] at hq
    subst hq
    first | exact c0 | exact c1 | exact c2 | exact c3 | exact c4 | exact c5 | exact c6
theorem own_lit {w : World} {e : TypeId} {size n : Nat} {xs : List Value} (hl : xs.length = n * size) (hn : n ≤ maxLen) : (w.alloc (.cells xs.toArray e)).ownsRow w.heap.size e size (.slice (some ⟨w.heap.size, 0, none⟩) n n) n xs :=
  ⟨hl, .inr ⟨w.heap.size, n, xs.toArray, rfl, Nat.le_refl _, obj_alloc_new _ _, Nat.le_refl _, hn, by simpa using hl, by simp [← hl]⟩⟩
theorem Tryz.elemCert : ElemInfo Tryz.prog 34 7 80 := elemInfo_of (z := .agg #[.int .i64 0, .int .u16 0, .string ⟨#[]⟩, .slice none 0 0, .int .i64 0, .int .i64 0, .int .i64 0]) (by kernel_rfl) rfl (by decide)
theorem intsAt_own {w : World} {base : Nat} {v : Value} {l : List Nat} (h : w.ownsRow base 3 1 v l.length (ints l)) : IntsAt w v (fun k => v.ownBlock = some k) (natI l) := by
  obtain ⟨a, cap, rfl, hl, hc⟩ := own_ints h
  refine ⟨a, cap, by unfold natI; rw [List.length_map], by unfold natI; rw [List.length_map]; exact hl, fun j x hj => ?_⟩
  unfold natI at hj
  rw [List.getElem?_map] at hj
  cases hq : l[j]? with
  | none => rw [hq] at hj; cases hj
  | some y =>
    rw [hq] at hj
    cases hj
    obtain ⟨g, rfl, q⟩ := hc j y hq
    exact ⟨g, 0, rfl, rfl, by rw [Nat.zero_add]; exact q.2⟩
theorem natI_dec (l : List Nat) (i : Nat) : decide ((i : Int) ∈ natI l) = decide (i ∈ l) := by
  rw [Bool.eq_iff_iff, decide_eq_true_iff, decide_eq_true_iff]
  unfold natI
  rw [List.mem_map]
  exact ⟨fun ⟨x, hx, e⟩ => by rwa [show i = x by omega], fun h => ⟨i, h, rfl⟩⟩
theorem has_own {w : World} {base : Nat} {oa va : Option Addr} {oc vn vc : Nat} {l : List Nat} (h : w.ownsRow base 3 1 (.slice oa l.length oc) l.length (ints l)) (i : Nat) (z : Int) (hz : z = i) :
    Calls Tryz.prog 35 #[.agg #[.slice oa l.length oc, .slice va vn vc], .int .i64 z] w fun e w' => e = .returned (.bool (decide (i ∈ l))) ∧ Chg (fun _ => False) w w' := by
  subst hz
  have := has_any w oa va l.length oc vn vc _ (natI l) (i : Int) (intsAt_own h)
  rwa [natI_dec] at this
/-- What Run leans on. -/
structure RunArgs (w : World) (ra : Option Addr) (R : List BRul) (rc : Nat) (v : Value) (P : List (BCert × Value)) (G : Nat → Prop) : Prop where
  rules : RulesAt w (.slice ra R.length rc) G R
  nil : ra = none → R.length = 0 ∧ rc = 0
  many : R.length ≤ 140737488355328
  size : R.length ≤ 400 → ∀ r ∈ R, r.1.size ≤ 400
  certs : CertsAt w v G P
  few : P.length ≤ 1000
  low : ∀ k, G k → k < w.heap.size
theorem RunArgs.chg {w w' : World} {ra : Option Addr} {R : List BRul} {rc : Nat} {v : Value} {P : List (BCert × Value)} {G : Nat → Prop} (h : RunArgs w ra R rc v P G) (hc : Chg (fun _ => False) w w') : RunArgs w' ra R rc v P G :=
  ⟨h.rules.chg hc (fun _ _ e => e), h.nil, h.many, h.size, h.certs.chg hc (fun _ _ e => e), h.few, fun k hk => Nat.lt_of_lt_of_le (h.low k hk) hc.size⟩
def RunOk (w : World) (s : ASt) (e : Ending) (w' : World) : Prop :=
  ∃ (oa va : Option Addr) (oc vc : Nat), e = .returned (.tuple #[.agg #[.slice oa s.order.length oc, .slice va s.rules.length vc], .int .i64 0]) ∧
      w'.ownsRow w.heap.size 3 1 (.slice oa s.order.length oc) s.order.length (ints s.order) ∧ w'.ownsRow w.heap.size 73 2 (.slice va s.rules.length vc) s.rules.length (ruleCells s.rules) ∧ Chg (fun _ => False) w w'
def RunErr (w : World) (k : Int) (e : Ending) (w' : World) : Prop := k ≠ 0 ∧ e = .returned (.tuple #[.agg #[.slice none 0 0, .slice none 0 0], .int .i64 k]) ∧ Chg (fun _ => False) w w'
section
variable {w : World} {ra : Option Addr} {R : List BRul} {rc : Nat} {v : Value} {P : List (BCert × Value)} {G : Nat → Prop}
theorem run_ok (h : RunArgs w ra R rc v P G) {b : Int} {s : ASt} (hs : acceptE R (certsOf P) b = .ok s) : Calls Tryz.prog 29 #[.slice ra R.length rc, v, .int .i64 b] w (RunOk w s) :=
  (run_any w ra R rc v P b G h.rules h.nil h.many h.size h.certs h.few h.low).mono fun e w' ⟨hc, hr⟩ => by
    rcases hr with ⟨k, _, hk, _⟩ | ⟨t, oa, va, oc, vc, ht, he, h1, h2⟩
    · rw [hs] at hk; cases hk
    · rw [hs] at ht; cases ht
      exact ⟨oa, va, oc, vc, he, h1, h2, hc⟩
theorem run_err (h : RunArgs w ra R rc v P G) {b k : Int} (hs : acceptE R (certsOf P) b = .error k) : Calls Tryz.prog 29 #[.slice ra R.length rc, v, .int .i64 b] w (RunErr w k) :=
  (run_any w ra R rc v P b G h.rules h.nil h.many h.size h.certs h.few h.low).mono fun e w' ⟨hc, hr⟩ => by
    rcases hr with ⟨j, hj, hk, he⟩ | ⟨t, oa, va, oc, vc, ht, he, h1, h2⟩
    · rw [hs] at hk; cases hk
      exact ⟨hj, he, hc⟩
    · rw [hs] at ht; cases ht
end
theorem RunOk.few {R : List BRul} {C : List BCert} {b : Int} {s : ASt} (h : acceptE R C b = .ok s) (hR : ∀ r ∈ R, r.1.size ≤ 400 ∧ r.2.size ≤ maxLen) : s.rules.length ≤ 400 ∧ ∀ r ∈ s.rules, r.1.size ≤ 400 ∧ r.2.size ≤ maxLen := by
  obtain ⟨h1, h2, _⟩ := accept_ok h
  exact (accept_fin h).1.inv.few h2 hR (certs_words h1)
end Go.Proofs.YtdgmjablkdemmaaGreat
