/-
  Operations in an act that is not written out: a value, a call, an append.
-/
import Derived.Test.YtdgmjablkdemmaaInv
namespace Go.Proofs.Ytdgmjablkdemmaa
open Go.RowKit

theorem wpList_valW {P : Program} {ops : Array Oper} {rest : List Oper} {o : Oper} {a : Act} {w : World} {Q : Exit → Act → World → Prop} (hg : o.guard = none) (v : Value) (w' : World) (hrun : (execOp a.eval o).run P w = .ok (.value v) w')
    (h : wpList P ops Q rest (a.put o.dst v) w') : wpList P ops Q (o :: rest) a w := by
  refine wpList_plain hg fun K hK => ?_
  unfold Oper.wp
  rw [hrun, Oper.upon_value]
  exact hK _ _ h
theorem wpList_calls {P : Program} {ops : Array Oper} {rest : List Oper} {o : Oper} {a : Act} {w : World} {Q : Exit → Act → World → Prop} (hg : o.guard = none) (f : FuncId) (args : Array Value) (hrun : (execOp a.eval o).run P w = .ok (.enter f args) w) {Post : Ending → World → Prop} (hc : Calls P f args w Post)
    (h : ∀ e w', Post e w' → ∃ v, e = .returned v ∧ wpList P ops Q rest (a.put o.dst v) w') : wpList P ops Q (o :: rest) a w := by
  refine wpList_plain hg fun K hK => ?_
  unfold Oper.wp
  rw [hrun, Oper.upon_enter]
  refine hc.mono fun e w'' hh => ?_
  obtain ⟨v, rfl, h2⟩ := h e w'' hh
  exact hK _ _ h2
/-- append of a slice that is only read, and where the row lies behind it. -/
theorem wpList_pushSF {P : Program} {w : World} {ops : Array Oper} {rest : List Oper} {o : Oper} {a : Act} {Q : Exit → Act → World → Prop} (hgd : o.guard = none) (s x : Operand) (t : TypeId)
    (ho : o.op = .call { callee := .builtin .append, args := #[s, x], argTypes := #[t, t] }) (e : TypeId) (size bytes : Nat) (ht : P.underlying t = some (.slice e)) (hE : ElemInfo P e size bytes)
    (base : Nat) (v : Value) (n : Nat) (xs : List Value) (hs : a.eval s = v) (hown : w.ownsRow base e size v n xs)
    (xa : Option Addr) (m c : Nat) (news : List Value) (hx : a.eval x = .slice xa m c) (hl : news.length = m * size) (hc : ∀ (j : Nat) u, news[j]? = some u → ∃ g o, xa = some ⟨g, o, none⟩ ∧ w.cell? ⟨g, o + j, none⟩ = some u) (hnil : xa = none → m = 0 ∧ c = 0)
    (h1 : ∀ u ∈ news, u.oneCell' = true) (hbytes : (n + m) * bytes ≤ 140737488355328) (h63 : n + m ≤ maxLen) (hbase : base ≤ w.heap.size)
    (h : ∀ v' w', w'.ownsRow base e size v' (n + m) (xs ++ news) → w.grownBy w' v.ownBlock → SameOrNew w v v' → wpList P ops Q rest (a.put o.dst v') w') : wpList P ops Q (o :: rest) a w := by
  obtain ⟨i, z, hi, hz, q1, q2, q3, q4⟩ := hE
  cases xa with
  | none =>
    obtain ⟨rfl, rfl⟩ := hnil rfl
    have : news = [] := List.eq_nil_of_length_eq_zero (by rw [hl]; omega)
    subst this
    refine wpList_append_own_none hgd s x _ ho base _ i size ht hi v n xs hs hown hx ?_
    exact h v w (by simpa using hown) ⟨rfl, rfl, rfl, Nat.le_refl _, fun _ _ _ => rfl⟩ (.inl rfl)
  | some ad =>
    refine wpList_plain hgd fun K hK => ?_
    obtain ⟨v', w', hr, h2, h3, h4⟩ := run_append_fresh (P := P) w base t o.type e i z size bytes ht hi hz q1 q2 q3 q4 v n xs hown ad m c news hl (fun j u hj => by
      obtain ⟨g, oo, e1, hcell⟩ := hc j u hj
      cases e1
      rw [addr_add]; exact hcell) h1 h63 hbytes hbase
    unfold Oper.wp execOp
    simp only [ho, resolve, invoke, builtin, Sem.run_bind, Sem.run_pure, Result.andThen_ok, List.map_toArray, List.map_cons, List.map_nil, hs, hx, hr]
    exact hK _ _ (h v' w' h2 h3 h4)
section
variable {P : Program} {W W' : World} {ρ : Operand → Value} {o : Oper} {x y z : Operand} {a b c v : Value} {t : TypeId}
theorem run_idx (ho : o.op = .indexAddr t x y) (hx : ρ x = a) (hy : ρ y = b) (hr : (Instr.indexAt t a b).run P W = .ok v W') : (execOp ρ o).run P W = .ok (.value v) W' := by
  simp only [execOp, ho, hx, hy, Sem.run_bind, hr, Result.andThen_ok]; rfl
theorem run_ld (ho : o.op = .load t x) (hx : ρ x = a) (hr : (Instr.loadAt t a).run P W = .ok v W') : (execOp ρ o).run P W = .ok (.value v) W' := by
  simp only [execOp, ho, hx, Sem.run_bind, hr, Result.andThen_ok]; rfl
theorem run_bs1 {n : Nat} (ho : o.op = .buildSlice t n #[(0, x)]) (hx : ρ x = a) (hr : (Instr.buildSlice t n #[(0, a)]).run P W = .ok v W') : (execOp ρ o).run P W = .ok (.value v) W' := by
  simp only [execOp, ho, Sem.run_bind]
  rw [show (#[(0, x)] : Array (Nat × Operand)).map (fun (i, x) => (i, ρ x)) = #[(0, a)] by simp [hx], hr]; rfl
theorem run_ex {i : Nat} (ho : o.op = .extract x i) (hx : ρ x = a) (hr : (Instr.extract a i).run P W = .ok v W') : (execOp ρ o).run P W = .ok (.value v) W' := by
  simp only [execOp, ho, hx, Sem.run_bind, hr, Result.andThen_ok]; rfl
theorem run_al (ho : o.op = .alloc t) (hr : (Instr.alloc t true (.tuple #[])).run P W = .ok v W') : (execOp ρ o).run P W = .ok (.value v) W' := by
  simp only [execOp, ho, Sem.run_bind, hr, Result.andThen_ok]; rfl
theorem run_cl {f : FuncId} {ps : Array Operand} {ts : Array TypeId} {vs : Array Value} (ho : o.op = .call { callee := .value (.func f), args := ps, argTypes := ts }) (hr : ρ (.func f) = .func (.func f) #[] #[]) (ha : ps.map ρ = vs) (hcf : ∀ args w, (callFunc f args).run P w = .ok (.enter f args) w) : (execOp ρ o).run P W = .ok (.enter f vs) W := by
  simp [execOp, ho, resolve, invoke, hr, ha, hcf, Deferred.ofValue]
theorem run_cl3 {f : FuncId} {ts : Array TypeId} (ho : o.op = .call { callee := .value (.func f), args := #[x, y, z], argTypes := ts }) (hr : ρ (.func f) = .func (.func f) #[] #[]) (hx : ρ x = a) (hy : ρ y = b) (hz : ρ z = c) (hcf : ∀ args w, (callFunc f args).run P w = .ok (.enter f args) w) : (execOp ρ o).run P W = .ok (.enter f #[a, b, c]) W :=
  run_cl ho hr (by simp [hx, hy, hz]) hcf
end
theorem canon_eval {ops : Array Oper} {a : Act} {L : Nat → Bool} {V : Nat → Value} {e j : Nat} (h : e < a.tmps.size) (ho : owner ops e = some j) (hl : L j = true) : (canon ops a L V).eval (.tmp e) = V j := canonT_done h ho hl
theorem canon_eval0 {ops : Array Oper} {a : Act} {L : Nat → Bool} {V : Nat → Value} {e : Nat} (h : e < a.tmps.size) (ho : owner ops e = none) : (canon ops a L V).eval (.tmp e) = a.eval (.tmp e) := canonT_old h ho
/-- All is done: the operations' values, put one behind the other. -/
def putAll (ops : Array Oper) (V : Nat → Value) : Nat → Act → Act
  | 0, a => a
  | n + 1, a => (putAll ops V n a).put (dstOf ops n) (V n)
theorem canon_to {ops : Array Oper} (hd : dstB ops = true) {a : Act} {V : Nat → Value} : ∀ n, n ≤ ops.size → canon ops a (fun j => decide (j < n)) V = putAll ops V n a
  | 0, _ => by
    unfold putAll
    have : (fun j => decide (j < 0)) = fun _ : Nat => false := by funext j; simp
    rw [this]
    unfold canon
    rw [canonT_none]
  | n + 1, h => by
    unfold putAll
    rw [← canon_to hd n (by omega)]
    have ho : ops[n]? = some ops[n] := Array.getElem?_eq_getElem h
    have := canon_put hd (a := a) (L := fun j => decide (j < n)) (V := V) ho (V n)
    rw [show dstOf ops n = (ops[n]).dst by unfold dstOf; rw [ho]; rfl, this]
    have e1 : upd (fun j => decide (j < n)) n true = fun j => decide (j < n + 1) := by
      funext j
      unfold upd
      by_cases q : j = n
      · subst q; rw [if_pos rfl]; simp
      · rw [if_neg q]
        show decide (j < n) = decide (j < n + 1)
        by_cases q2 : j < n
        · rw [decide_eq_true q2, decide_eq_true (by omega)]
        · rw [decide_eq_false q2, decide_eq_false (by omega)]
    have e2 : upd V n (V n) = V := by
      funext j
      unfold upd
      split
      · rename_i q; rw [q]
      · rfl
    rw [e1, e2]
theorem canon_all {ops : Array Oper} (hd : dstB ops = true) {a : Act} {L : Nat → Bool} {V : Nat → Value} (h : ∀ j, j < ops.size → L j = true) : canon ops a L V = putAll ops V ops.size a := by
  rw [← canon_to hd ops.size (Nat.le_refl _)]
  unfold canon
  congr 1
  apply Array.ext_getElem?
  intro e
  by_cases he : e < a.tmps.size
  · rw [canonT_get _ _ _ he, canonT_get _ _ _ he]
    cases hw : owner ops e with
    | none => rfl
    | some j =>
      have hj : j < ops.size := by
        have := owner_dst hw
        unfold dstOf at this
        refine Decidable.byContradiction fun hn => ?_
        rw [Array.getElem?_eq_none (by omega)] at this
        cases this
      simp only
      rw [if_pos (h j hj), if_pos (decide_eq_true hj)]
  · rw [Array.getElem?_eq_none (by rw [canonT_size]; omega), Array.getElem?_eq_none (by rw [canonT_size]; omega)]
end Go.Proofs.Ytdgmjablkdemmaa
