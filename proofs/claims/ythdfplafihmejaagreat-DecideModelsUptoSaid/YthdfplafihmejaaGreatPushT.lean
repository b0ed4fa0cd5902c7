/-
  Append of a slice of another type; lists of the words of rules and certificates.
-/
import Derived.Test.YthdfplafihmejaaGreatURun
namespace Go.Proofs.YthdfplafihmejaaGreat
open Go.RowKit Go.Maps

theorem append_types {P : Program} {w : World} {t t2 ty e e2 : TypeId} {args : Array Value} (ht : P.underlying t = some (.slice e)) (ht2 : P.underlying t2 = some (.slice e2)) : (Builtin.append_ #[t, t2] ty args).run P w = (Builtin.append_ #[t, t] ty args).run P w := by
 have e0 : (#[t, t2] : Array TypeId)[0]? = some t := rfl
 have e1 : (#[t, t2] : Array TypeId)[1]? = some t2 := rfl
 have e2 : (#[t, t] : Array TypeId)[0]? = some t := rfl
 have e3 : (#[t, t] : Array TypeId)[1]? = some t := rfl
 unfold Builtin.append_
 simp only [e0, e1, e2, e3]
 cases h0 : args[0]? with
 | none => rfl
 | some s =>
  cases h1 : args[1]? with
  | none => rfl
  | some x =>
   simp only [Sem.run_bind, run_underlying ht, Result.andThen_ok]
   cases s with
   | slice a n c =>
    simp only [Sem.run_bind, run_underlying ht, run_underlying ht2, Result.andThen_ok, Sem.run_pure]
   | _ => rfl
/-- 'append(s, x..)', x of another type of slices. -/
theorem wpList_pushT {P : Program} {w : World} {ops : Array Oper} {rest : List Oper} {o : Oper} {a : Act} {Q : Exit → Act → World → Prop} (hgd : o.guard = none) (s x : Operand) (t t2 : TypeId)
  (ho : o.op = .call { callee := .builtin .append, args := #[s, x], argTypes := #[t, t2] }) (e e2 : TypeId) (size bytes : Nat) (ht : P.underlying t = some (.slice e)) (ht2 : P.underlying t2 = some (.slice e2)) (hE : ElemInfo P e size bytes)
  (base : Nat) (v : Value) (n : Nat) (xs : List Value) (hs : a.eval s = v) (hown : w.ownsRow base e size v n xs)
  (xa : Option Addr) (m c : Nat) (news : List Value) (hx : a.eval x = .slice xa m c) (hl : news.length = m * size) (hc : ∀ (j : Nat) u, news[j]? = some u → ∃ g o, xa = some ⟨g, o, none⟩ ∧ w.cell? ⟨g, o + j, none⟩ = some u) (hnil : xa = none → m = 0 ∧ c = 0)
  (h1 : ∀ u ∈ news, u.oneCell' = true) (hbytes : (n + m) * bytes ≤ 140737488355328) (h63 : n + m ≤ maxLen) (hbase : base ≤ w.heap.size)
  (h : ∀ v' w', w'.ownsRow base e size v' (n + m) (xs ++ news) → w.grownBy w' v.ownBlock → wpList P ops Q rest (a.put o.dst v') w') : wpList P ops Q (o :: rest) a w := by
 obtain ⟨i, z, hi, hz, q1, q2, q3, q4⟩ := hE
 refine wpList_plain hgd fun K hK => ?_
 cases xa with
 | none =>
  obtain ⟨rfl, rfl⟩ := hnil rfl
  have : news = [] := List.eq_nil_of_length_eq_zero (by rw [hl]; omega)
  subst this
  have hrun := run_append_owned_none (P := P) (w := w) base t o.type e i size ht hi v n xs hown
  rw [← append_types ht ht2] at hrun
  unfold Oper.wp
  simp [execOp, ho, resolve, invoke, builtin, hs, hx, hrun, Result.andThen]
  exact hK _ _ (h v w (by simpa using hown) ⟨rfl, rfl, rfl, Nat.le_refl _, fun _ _ _ => rfl⟩)
 | some ad =>
  have hnews : ∀ j u, news[j]? = some u → w.cell? (ad.add j) = some u := fun j u hj => by
   obtain ⟨g, oo, e1, hcell⟩ := hc j u hj
   cases e1
   rw [addr_add]; exact hcell
  obtain ⟨v', w', hr, h2, h3, _⟩ := run_append_own (P := P) w base t o.type e i z size bytes ht hi hz q1 q2 q3 q4 v n xs hown ad m c news hl hnews h1 h63 hbytes hbase
  rw [← append_types ht ht2] at hr
  unfold Oper.wp execOp
  simp only [ho, resolve, invoke, builtin, Sem.run_bind, Sem.run_pure, Result.andThen_ok, List.map_toArray, List.map_cons, List.map_nil, hs, hx, hr]
  exact hK _ _ (h v' w' h2 h3)

def wordsL (R : List BRul) : List ByteArray := R.flatMap fun r => [r.1, r.2]
theorem wordsL_succ {R : List BRul} {k : Nat} {r : BRul} (h : R[k]? = some r) : wordsL (R.take (k + 1)) = wordsL (R.take k) ++ [r.1, r.2] := by
 unfold wordsL
 rw [List.take_add_one, h, List.flatMap_append]
 simp
theorem wordsL_length (R : List BRul) : (wordsL R).length = R.length * 2 := by
 unfold wordsL
 induction R with
 | nil => rfl
 | cons r R ih => rw [List.flatMap_cons, List.length_append, ih]; simp; omega
def wordsC (C : List BCert) : List ByteArray := C.flatMap fun c => c.sp :: c.fr
theorem wordsC_succ {C : List BCert} {k : Nat} {c : BCert} (h : C[k]? = some c) : wordsC (C.take (k + 1)) = wordsC (C.take k) ++ (c.sp :: c.fr) := by
 unfold wordsC
 rw [List.take_add_one, h, List.flatMap_append]
 simp
theorem wcells_append (a b : List ByteArray) : wcells (a ++ b) = wcells a ++ wcells b := by unfold wcells; rw [List.map_append]
theorem wcells_length (a : List ByteArray) : (wcells a).length = a.length := by unfold wcells; rw [List.length_map]
theorem own_next {w0 w w' : World} {t : TypeId} {sz n : Nat} {v : Value} {xs : List Value} (h : w.ownsRow w0.heap.size t sz v n xs) (k : Chg (fun _ => False) w0 w) (g : w.grownBy w' v.ownBlock) : Chg (fun _ => False) w0 w' :=
 k.next (Chg.of_grown g) (fun x hx e => by have := (h.lt x e).1; omega)
end Go.Proofs.YthdfplafihmejaaGreat
