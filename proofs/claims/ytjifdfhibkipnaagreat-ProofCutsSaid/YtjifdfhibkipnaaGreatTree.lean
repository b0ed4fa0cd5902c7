/-
  A region that draws its order, walked by a tree: as by a plan (Kit2), but where two operations that do something are ready at once each may come first.
-/
import Derived.Test.YtjifdfhibkipnaaGreatKit2
namespace Go.Proofs.YtjifdfhibkipnaaGreat
open Go.RowKit

inductive PT where
  | nil
  | rd (is : List Nat) (n : PT)
  | ef (i : Nat) (n : PT)
  | two (i j : Nat) (a b : PT)
def PT.len : PT → Nat
  | .nil => 0
  | .rd is n => is.length + n.len
  | .ef _ n => 1 + n.len
  | .two _ _ a _ => 1 + a.len
def PT.okB (ops : Array Oper) (N L : Nat) : PT → Array Bool → Bool
  | .nil, listed => (Region.ready .any ops listed).isEmpty
  | .rd is n, listed => rdsB ops N is && planB.goB ops is listed && is.all (depB ops L) && n.okB ops N L (is.foldl (fun l i => l.setIfInBounds i true) listed)
  | .ef i n, listed => (Region.ready .any ops listed == [i]) && decide (i < ops.size) && (!(i == L) || (match n with | .nil => true | _ => false)) && n.okB ops N L (listed.setIfInBounds i true)
  | .two i j a b, listed => (Region.ready .any ops listed == [i, j]) && decide (i < ops.size) && decide (j < ops.size) && !(i == L) && !(j == L) && (a.len == b.len) && a.okB ops N L (listed.setIfInBounds i true) && b.okB ops N L (listed.setIfInBounds j true)
section
variable {P : Program} {ops : Array Oper} {Q : Exit → Act → World → Prop} {S : World → Prop} {L : Nat}
def wpTree (P : Program) (ops : Array Oper) (S : World → Prop) (L : Nat) (Q : Exit → Act → World → Prop) : PT → Act → World → Prop
  | .nil, a, w => Q .normal a w
  | .rd is n, a, w => ∃ A, (∀ w', S w' → ∀ K : Act → Prop, K A → wpStill P ops w' K (opsAt ops is) a) ∧ wpTree P ops S L Q n A w
  | .ef i n, a, w => wpOp P ops (NoPanic Q) i (fun a' w' => (i = L ∨ S w') ∧ wpTree P ops S L Q n a' w') a w
  | .two i j x y, a, w => wpOp P ops (NoPanic Q) i (fun a' w' => S w' ∧ wpTree P ops S L Q x a' w') a w ∧ wpOp P ops (NoPanic Q) j (fun a' w' => S w' ∧ wpTree P ops S L Q y a' w') a w
theorem still_size {w : World} {A : Act} : ∀ (l : List Oper) (a : Act), wpStill P ops w (· = A) l a → A.tmps.size = a.tmps.size
  | [], a, h => by have : a = A := h; rw [this]
  | o :: l, a, h => by
    unfold wpStill at h
    split at h
    · unfold Oper.still at h
      generalize (execOp a.eval o).run P w = res at h
      cases res with
      | halt x w' => cases x <;> simp [Oper.stillUpon] at h
      | ok n w' =>
        cases n with
        | value v => have := still_size l _ h.2; rwa [put_size] at this
        | skip => have := still_size l _ h.2; rwa [put_size] at this
        | enter f args => obtain ⟨_, v, _, hv⟩ := h; have := still_size l _ hv; rwa [put_size] at this
        | _ => simp [Oper.stillUpon] at h
    · have := still_size l _ h; rwa [put_size] at this
theorem tree_run {N : Nat} (hsel : Region.noSelect ops = true) : ∀ (pl : PT) (listed : Array Bool) (a : Act) (w : World), N ≤ a.tmps.size → (S w ∨ pl = .nil) → pl.okB ops N L listed = true →
      wpTree P ops S L Q pl a w → wpAnyG P .any ops (NoPanic Q) S L pl.len listed a w
  | .nil, listed, a, w, _, _, hb, h => by
    simp only [PT.okB, List.isEmpty_iff] at hb
    exact wpAnyG_done (Q := NoPanic Q) hb h _
  | .rd is n, listed, a, w, hN, hS, hb, h => by
    have hS : S w := hS.resolve_right (by simp)
    simp only [PT.okB, Bool.and_eq_true] at hb
    obtain ⟨A, h1, h2⟩ := h
    have hA : A.tmps.size = a.tmps.size := still_size _ _ (h1 w hS (· = A) rfl)
    have := tree_run hsel n _ A w (by omega) (.inl hS) hb.2 h2
    have := planL_reads (N := N) hsel hS is listed a hN hb.1.1.1 hb.1.1.2 hb.1.2 (fun w' hS' => h1 w' hS' (· = A) rfl) this
    rw [show (PT.rd is n).len = n.len + is.length from Nat.add_comm _ _]
    exact this
  | .ef i n, listed, a, w, hN, _, hb, h => by
    simp only [PT.okB, Bool.and_eq_true, decide_eq_true_eq, beq_iff_eq, Bool.or_eq_true, Bool.not_eq_true', beq_eq_false_iff_ne] at hb
    rw [show (PT.ef i n).len = n.len + 1 from Nat.add_comm _ _]
    refine wpAnyG_all hb.1.1.1 (by simp) (fun j hj => ?_)
    simp at hj
    subst hj
    refine wpOp_mono (fun a' w' ⟨hs, hS', hp⟩ => ⟨hS', tree_run hsel n _ a' w' (by omega) ?_ hb.2 hp⟩) (wpOp_size h)
    rcases hS' with e | e
    · refine .inr ?_
      rcases hb.1.2 with q | q
      · exact absurd e q
      · revert q; cases n <;> simp
    · exact .inl e
  | .two i j x y, listed, a, w, hN, _, hb, h => by
    simp only [PT.okB, Bool.and_eq_true, decide_eq_true_eq, beq_iff_eq] at hb
    obtain ⟨⟨⟨⟨⟨⟨⟨b1, b2⟩, b3⟩, b4⟩, b5⟩, b6⟩, b7⟩, b8⟩ := hb
    rw [show (PT.two i j x y).len = x.len + 1 from Nat.add_comm _ _]
    refine wpAnyG_all b1 (by simp) (fun k hk => ?_)
    simp at hk
    rcases hk with rfl | rfl
    · exact wpOp_mono (fun a' w' ⟨hs, hS', hp⟩ => ⟨.inr hS', tree_run hsel x _ a' w' (by omega) (.inl hS') b7 hp⟩) (wpOp_size h.1)
    · rw [b6]
      exact wpOp_mono (fun a' w' ⟨hs, hS', hp⟩ => ⟨.inr hS', tree_run hsel y _ a' w' (by omega) (.inl hS') b8 hp⟩) (wpOp_size h.2)
/-- THE THEOREM: a region that draws its order, by a tree; operation L (if any) is the last one, and may write what the reads lean on. -/
theorem wp_region_tree {id N : Nat} {l : List Oper} {a : Act} {w : World} (pl : PT) (L : Nat) (S : World → Prop) (hm : P.follows .mixedOrders = true) (hsel : Region.noSelect l.toArray = true)
    (hlen : pl.len = l.toArray.size) (hb : pl.okB l.toArray N L (Array.replicate l.toArray.size false) = true) (hN : N ≤ a.tmps.size) (hS : S w.drew)
    (h : wpTree P l.toArray S L Q pl a w.drew) : (Code.region id l.toArray true).wp P Q a w := by
  refine wp_region_noPanic (wp_region_any hm (wpAny_of_G (S := S) (L := L) _ _ _ _ ?_))
  have := tree_run hsel pl _ a w.drew hN (.inl hS) hb h
  rw [hlen] at this; exact this
theorem tree_op {i : Nat} {o : Oper} {K : Act → World → Prop} {a : Act} {w : World} (ho : ops[i]? = some o)
    (h : wpList P ops (PlanQ Q K) [o] a w) : wpOp P ops (NoPanic Q) i K a w := by
  unfold wpOp
  rw [ho]
  dsimp only
  unfold wpList at h
  have hq : ∀ e a w, e ≠ .normal → PlanQ Q K e a w → NoPanic Q e a w := by
    intro e a w he h
    cases e <;> first | exact absurd rfl he | exact h | exact (h : False).elim
  split at h
  · rename_i hw
    rw [if_pos hw]
    refine h.imp (fun h => ?_) (fun ⟨h1, a, w, h2⟩ => ⟨h1, a, w, h2⟩)
    exact Oper.wp_mono (fun a w h => h) (wp_q_mono hq h)
  · rename_i hw
    rw [if_neg hw]; exact h
theorem tree_ef {i : Nat} {o : Oper} {n : PT} {a : Act} {w : World} (ho : ops[i]? = some o)
    (h : wpList P ops (PlanQ Q (fun a' w' => (i = L ∨ S w') ∧ wpTree P ops S L Q n a' w')) [o] a w) : wpTree P ops S L Q (.ef i n) a w := tree_op ho h
theorem tree_two {i j : Nat} {o p : Oper} {x y : PT} {a : Act} {w : World} (ho : ops[i]? = some o) (hp : ops[j]? = some p)
    (h : wpList P ops (PlanQ Q (fun a' w' => S w' ∧ wpTree P ops S L Q x a' w')) [o] a w) (h2 : wpList P ops (PlanQ Q (fun a' w' => S w' ∧ wpTree P ops S L Q y a' w')) [p] a w) : wpTree P ops S L Q (.two i j x y) a w := ⟨tree_op ho h, tree_op hp h2⟩
theorem tree_rd {is : List Nat} {n : PT} {a A : Act} {w : World} (h : ∀ w', S w' → ∀ K : Act → Prop, K A → wpStill P ops w' K (opsAt ops is) a) (h2 : wpTree P ops S L Q n A w) : wpTree P ops S L Q (.rd is n) a w := ⟨A, h, h2⟩
theorem tree_nil {a : Act} {w : World} (h : Q .normal a w) : wpTree P ops S L Q .nil a w := h
end
/-- A read whose guard says no. -/
theorem wpStill_skip {P : Program} {ops : Array Oper} {w : World} {Q : Act → Prop} {a : Act} {o : Oper} {rest : List Oper} (h : Region.wanted o (yielded ops a.tmps) = false) (h2 : wpStill P ops w Q rest (a.put o.dst undef)) : wpStill P ops w Q (o :: rest) a := by
  unfold wpStill
  rw [if_neg (by rw [h]; decide)]
  exact h2
/-- An operation whose guard says no. -/
theorem wpList_skip {P : Program} {ops : Array Oper} {w : World} {Q : Exit → Act → World → Prop} {a : Act} {o : Oper} {rest : List Oper} (h : Region.wanted o (yielded ops a.tmps) = false) (h2 : wpList P ops Q rest (a.put o.dst undef) w) : wpList P ops Q (o :: rest) a w := by
  unfold wpList
  rw [if_neg (by rw [h]; decide)]
  exact h2
/-- wpStill, behind a wall (the walk does not look into it). -/
structure WS (P : Program) (ops : Array Oper) (w : World) (Q : Act → Prop) (l : List Oper) (a : Act) : Prop where
  out : wpStill P ops w Q l a
theorem ws_step {P : Program} {ops : Array Oper} {w : World} {Q : Act → Prop} {a : Act} {o : Oper} {rest : List Oper}
    (h : ∀ K : Act → Prop, (∀ a, WS P ops w Q rest a → K a) → if Region.wanted o (yielded ops a.tmps) then o.still P a w K else K (a.put o.dst undef)) : WS P ops w Q (o :: rest) a :=
  ⟨wpStill_step fun K hK => h K (fun a h2 => hK a h2.out)⟩
theorem ws_nil {P : Program} {ops : Array Oper} {w : World} {Q : Act → Prop} {a : Act} (h : Q a) : WS P ops w Q [] a := ⟨wpStill_nil h⟩
end Go.Proofs.YtjifdfhibkipnaaGreat
