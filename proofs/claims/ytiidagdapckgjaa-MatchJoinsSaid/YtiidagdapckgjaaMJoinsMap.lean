/-
  Layer 10: a set of hits, as a map.
-/
import Derived.Test.YtiidagdapckgjaaMapG
import Derived.DeepKeys4
import Derived.WideKeyPair
import Derived.Test.YtiidagdapckgjaaMArgs
namespace Go.Proofs.Ytiidagdapckgjaa
open Go.RowKit Go.Maps

theorem Try.hitRow : (32 : TypeId) < Try.prog.types.size := of_decide_eq_true (by kernel_rfl)
theorem Try.hitWide : (match Try.prog.underlying 32 with | some (.array _ _) | some (.struct _) => true | _ => false) = true := by rw [Try.underlying32]
theorem Try.hitLaw : WideMaps.KeyLaw Try.prog 32 := deep_law_laid Try.laidOut (m := 2) (by omega) Try.hitRow (by kernel_rfl) Try.hitWide
theorem Try.hitKeyed : Keyed Try.prog 32 := Keyed.of_law Try.hitLaw
theorem Try.hitCells : Try.prog.cellsOf 32 = 2 := by kernel_rfl
theorem Try.intCells : Try.prog.cellsOf 3 = 1 := by kernel_rfl
theorem Try.hitKeyType : Try.prog.keyType 32 = true := by kernel_rfl
theorem Try.zeroBool (w : World) : (zeroValue 4).run Try.prog w = .ok (.bool false) w := by kernel_rfl
/-- A hit, as a key. -/
def hitVal (h : Nat × Nat) : Value := .agg #[.int .i64 (h.1 : Int), .int .i64 (h.2 : Int)]
def hitKey (h : Nat × Nat) : Lit := .string (keyBytes [.int .i64 (h.1 : Int), .int .i64 (h.2 : Int)])
def Fits (h : Nat × Nat) : Prop := h.1 ≤ 1000000 ∧ h.2 ≤ 1000000
theorem wf_nat (x : Nat) (h : x ≤ 1000000) : (Lit.int .i64 (x : Int)).wf = true := by
  simp only [Lit.wf, Bool.and_eq_true, decide_eq_true_eq]; exact ⟨by show (-9223372036854775808 : Int) ≤ _; omega, by show _ ≤ (9223372036854775807 : Int); omega⟩
theorem hitKey_of (h : Nat × Nat) (hf : Fits h) : keyOf Try.prog 32 (hitVal h) = some (hitKey h) := by
  have w1 := wf_nat h.1 hf.1
  have w2 := wf_nat h.2 hf.2
  unfold keyOf hitVal hitKey
  simp only [Try.underlying32]
  rw [if_pos (by simp [Try.hitKeyType, Value.formed, Try.underlying32, Try.hitCells])]
  unfold Program.keyLits
  simp only [Try.underlying32, Value.cells]
  rw [if_pos ⟨by rw [Try.hitCells]; rfl, by decide +kernel⟩]
  obtain ⟨m, hm⟩ : ∃ m, Try.prog.types.size = m + 1 := ⟨Try.prog.types.size - 1, (Nat.sub_add_cancel (Nat.zero_lt_of_lt Try.hitRow)).symm⟩
  rw [hm, List.mapM_cons, List.mapM_cons, List.mapM_nil]
  simp [Try.intCells, Program.keyLits, Try.underlying3, w1, w2]
theorem hitKey_inj {g h : Nat × Nat} (hg : Fits g) (hh : Fits h) (e : hitKey g = hitKey h) : g = h := by
  have := Try.hitKeyed.inj (hitKey_of g hg) (by rw [e]; exact hitKey_of h hh)
  unfold hitVal at this
  simp at this
  exact Prod.ext (by omega) (by omega)
open Classical in
/-- A set of hits. -/
noncomputable def setF (S : Nat × Nat → Prop) : Lit → Option (DataW Unit) := fun kl => if ∃ h, Fits h ∧ S h ∧ kl = hitKey h then some (.lit (.bool true)) else none
abbrev HSet (w : World) (b n : Nat) (S : Nat × Nat → Prop) : Prop := MapAt Try.prog 32 4 w b n (setF S)
theorem setF_none : (fun _ => none) = setF (fun _ => False) := by
  funext kl
  unfold setF
  rw [if_neg]
  rintro ⟨_, _, e, _⟩
  exact e
theorem setF_put (S : Nat × Nat → Prop) (g : Nat × Nat) (hg : Fits g) : putF (setF S) (hitKey g) (some (.lit (.bool true))) = setF (fun h => S h ∨ h = g) := by
  funext kl
  unfold putF
  by_cases h : kl = hitKey g
  · rw [if_pos h]
    unfold setF
    rw [if_pos ⟨g, hg, .inr rfl, h⟩]
  · rw [if_neg h]
    unfold setF
    by_cases h2 : ∃ h, Fits h ∧ S h ∧ kl = hitKey h
    · rw [if_pos h2, if_pos]
      obtain ⟨x, q1, q2, q3⟩ := h2
      exact ⟨x, q1, .inl q2, q3⟩
    · rw [if_neg h2, if_neg]
      rintro ⟨x, q1, q2 | rfl, q3⟩
      · exact h2 ⟨x, q1, q2, q3⟩
      · exact h q3
theorem setF_del (S : Nat × Nat → Prop) (g : Nat × Nat) (hg : Fits g) : putF (setF S) (hitKey g) none = setF (fun h => S h ∧ h ≠ g) := by
  funext kl
  unfold putF
  by_cases h : kl = hitKey g
  · rw [if_pos h]
    unfold setF
    rw [if_neg]
    rintro ⟨x, q1, ⟨_, q2⟩, q3⟩
    exact q2 (hitKey_inj q1 hg (q3.symm.trans h))
  · rw [if_neg h]
    unfold setF
    by_cases h2 : ∃ h, Fits h ∧ S h ∧ kl = hitKey h
    · rw [if_pos h2, if_pos]
      obtain ⟨x, q1, q2, q3⟩ := h2
      exact ⟨x, q1, ⟨q2, fun e => h (by rw [q3, e])⟩, q3⟩
    · rw [if_neg h2, if_neg]
      rintro ⟨x, q1, ⟨q2, _⟩, q3⟩
      exact h2 ⟨x, q1, q2, q3⟩
theorem setF_in {S : Nat × Nat → Prop} {g : Nat × Nat} (hg : Fits g) (h : S g) : setF S (hitKey g) = some (.lit (.bool true)) := by
  unfold setF
  rw [if_pos ⟨g, hg, h, rfl⟩]
theorem setF_some {S : Nat × Nat → Prop} {kl : Lit} (h : (setF S kl).isSome = true) : ∃ g, Fits g ∧ S g ∧ kl = hitKey g := by
  unfold setF at h
  split at h
  · assumption
  · cases h
/-- The step of a range over a set of hits. -/
theorem wpList_next_hits {w : World} {ops : Array Oper} {rest : List Oper} {o : Oper} {a : Act} {Q : Exit → Act → World → Prop} (hg : o.guard = none) (it : Operand) (hop : o.op = Op.next it false)
    (b r n : Nat) (D : DataW Unit) (left : Lit → Bool) (cnt : Nat) (S : Nat × Nat → Prop) (hit : a.eval it = .pointer (some ⟨r, 0, none⟩)) (h : w.ranges Try.prog 32 (plainElem Try.prog 4) b r n D left cnt)
    (hS : ∀ kl, left kl = true → ∃ g, Fits g ∧ S g ∧ kl = hitKey g)
    (hDone : wpList Try.prog ops Q rest (a.put o.dst (.tuple #[.bool false])) w)
    (hMore : ∀ (x1 x2 : Nat) (v : Value) (w' : World) (cnt' : Nat) (left' : Lit → Bool), Fits (x1, x2) → S (x1, x2) → w'.ranges Try.prog 32 (plainElem Try.prog 4) b r n D left' cnt' → (∀ kl, left' kl = true → left kl = true) → cnt' < cnt → w.grownBy w' (some r) →
      (Instr.entry (.pointer (some ⟨r, 0, none⟩))).run Try.prog w' = .ok (.tuple #[.agg #[.int .i64 (x1 : Int), .int .i64 (x2 : Int)], v]) w' → wpList Try.prog ops Q rest (a.put o.dst (.tuple #[.bool true, .agg #[.int .i64 (x1 : Int), .int .i64 (x2 : Int)], v])) w') :
    wpList Try.prog ops Q (o :: rest) a w := by
  refine wpList_plain hg fun K' hK' => ?_
  unfold Oper.wp
  rcases h.next Try.hitKeyed o.type with ⟨h0, hl, hrun⟩ | ⟨key, v, kl, y, w', cnt', hkey, hlk, hv, hat, hrun, hrg, hlt, hgr, hsz, hen⟩
  · simp [execOp, hop, hit, hrun, Result.andThen]
    exact hK' _ _ hDone
  · obtain ⟨⟨x1, x2⟩, q1, q2, rfl⟩ := hS kl hlk
    obtain rfl := Try.hitKeyed.inj hkey (hitKey_of _ q1)
    simp [execOp, hop, hit, hrun, Result.andThen]
    exact hK' _ _ (hMore x1 x2 v w' cnt' _ q1 q2 hrg (fun z hz => by simp at hz; exact hz.1) hlt hgr hen)
end Go.Proofs.Ytiidagdapckgjaa
