/-
  Layer 12: what holds in AcceptMore's drawn regions, whichever operation came first.
-/
import Derived.Test.YtdgmjablkdemmaaUInv7
namespace Go.Proofs.Ytdgmjablkdemmaa
open Go.RowKit Go.Maps

structure InvG (w0 : World) (b : Nat) (PP : List (BCert × Value)) (p : BCert × Value) (bnd : Int) (vr vm vc : Value) (n1 n2 : Nat) (F1 F2 : Prop) (L : Nat → Bool) (V : Nat → Value) (W : World) : Prop where
  k : Chg (fun _ => False) w0 W
  r0 : L 0 = true → V 0 = vr
  r2 : L 2 = true → V 2 = vc
  r4 : L 4 = true → V 4 = certV p.1 p.2
  r7 : L 7 = true → V 7 = .int .i64 bnd
  a1 : L 1 = true → L 3 = false → W.ownsRow b 37 7 (V 1) 0 ([])
  a3 : L 3 = true → L 6 = false → W.ownsRow b 37 7 (V 3) PP.length (pcellsL PP)
  c5 : L 5 = true → L 6 = false → (∃ g, V 5 = .slice (some ⟨g, 0, none⟩) 1 1) ∧ W.ownsRow b 37 7 (V 5) 1 (pcellsL [p])
  ap1 : L 1 = true → L 3 = false → L 5 = true → L 6 = false → ∀ g, (V 5).ownBlock = some g → (V 1).ownBlock ≠ some g
  ap3 : L 3 = true → L 5 = true → L 6 = false → ∀ g, (V 5).ownBlock = some g → (V 3).ownBlock ≠ some g
  b6 : L 6 = true → W.ownsRow b 37 7 (V 6) (PP ++ [p]).length (pcellsL (PP ++ [p]))
  o6 : L 6 = true → L 3 = true ∧ L 5 = true
  o8 : L 8 = true → L 6 = true
  o9 : L 9 = true → L 8 = true
  o10 : L 10 = true → L 9 = true
  o11 : L 11 = true → L 10 = true
  o12 : L 12 = true → L 11 = true
  o13 : L 13 = true → L 12 = true
  o14 : L 14 = true → L 13 = true
  o15 : L 15 = true → L 14 = true
  o16 : L 16 = true → L 13 = true
  o17 : L 17 = true → L 16 = true
  o18 : L 18 = true → L 15 = true ∧ L 17 = true
  o19 : L 19 = true → L 18 = true
  o20 : L 20 = true → L 19 = true
  g : L 8 = true → ∃ b1 : Bool, V 8 = .bool b1 ∧ (b1 = false → F1) ∧ (L 9 = true → V 9 = .bool b1) ∧ (L 10 = true → b1 = false → V 10 = vm)
  h : L 11 = true → ∃ b1 b2 : Bool, V 9 = .bool b1 ∧ (b1 = false → V 11 = .bool b2) ∧ ((b1 || b2) = false → F1 ∧ F2) ∧ (L 12 = true → V 12 = .bool (b1 || b2)) ∧ (L 13 = true → V 13 = .bool (b1 || b2)) ∧ (L 14 = true → (b1 || b2) = false → V 14 = vr) ∧ (L 15 = true → (b1 || b2) = false → V 15 = .int .i64 (n1 : Int)) ∧ (L 16 = true → (b1 || b2) = false → V 16 = vm) ∧ (L 17 = true → (b1 || b2) = false → V 17 = .int .i64 (n2 : Int)) ∧ (L 18 = true → (b1 || b2) = false → V 18 = .int .i64 ((n1 : Int) + (n2 : Int))) ∧ (L 19 = true → (b1 || b2) = false → V 19 = .bool (decide (24 < (n1 : Int) + (n2 : Int)))) ∧ (L 20 = true → ∃ x : Bool, V 20 = .bool x ∧ (x = false → F1 ∧ F2 ∧ n1 + n2 ≤ 24))
theorem InvG.chg0 {w0 : World} {b : Nat} {PP : List (BCert × Value)} {p : BCert × Value} {bnd : Int} {vr vm vc : Value} {n1 n2 : Nat} {F1 F2 : Prop} {L : Nat → Bool} {V : Nat → Value} {W W' : World} (h : InvG w0 b PP p bnd vr vm vc n1 n2 F1 F2 L V W) (hc : Chg (fun _ => False) W W') : InvG w0 b PP p bnd vr vm vc n1 n2 F1 F2 L V W' :=
  ⟨h.k.trans hc, h.r0, h.r2, h.r4, h.r7, (fun x y => own_chg (h.a1 x y) hc (fun _ _ e => e)), (fun x y => own_chg (h.a3 x y) hc (fun _ _ e => e)), (fun x y => ⟨(h.c5 x y).1, own_chg (h.c5 x y).2 hc (fun _ _ e => e)⟩), h.ap1, h.ap3, (fun x => own_chg (h.b6 x) hc (fun _ _ e => e)), h.o6, h.o8, h.o9, h.o10, h.o11, h.o12, h.o13, h.o14, h.o15, h.o16, h.o17, h.o18, h.o19, h.o20, h.g, h.h⟩
structure InvM (w0 : World) (b : Nat) (R M : List BRul) (PP : List (BCert × Value)) (p : BCert × Value) (bnd : Int) (vr vm vc : Value) (L : Nat → Bool) (V : Nat → Value) (W : World) : Prop where
  k : Chg (fun _ => False) w0 W
  r1 : L 1 = true → V 1 = vr
  r3 : L 3 = true → V 3 = vm
  r6 : L 6 = true → V 6 = vc
  r8 : L 8 = true → V 8 = certV p.1 p.2
  r11 : L 11 = true → V 11 = .int .i64 bnd
  a0 : L 0 = true → L 2 = false → W.ownsRow b 64 2 (V 0) 0 ([])
  a2 : L 2 = true → L 4 = false → W.ownsRow b 64 2 (V 2) R.length (ruleCells R)
  a4 : L 4 = true → W.ownsRow b 64 2 (V 4) (R ++ M).length (ruleCells (R ++ M))
  b5 : L 5 = true → L 7 = false → W.ownsRow b 37 7 (V 5) 0 ([])
  b7 : L 7 = true → L 10 = false → W.ownsRow b 37 7 (V 7) PP.length (pcellsL PP)
  c9 : L 9 = true → L 10 = false → (∃ g, V 9 = .slice (some ⟨g, 0, none⟩) 1 1) ∧ W.ownsRow b 37 7 (V 9) 1 (pcellsL [p])
  ap5 : L 5 = true → L 7 = false → L 9 = true → L 10 = false → ∀ g, (V 9).ownBlock = some g → (V 5).ownBlock ≠ some g
  ap7 : L 7 = true → L 9 = true → L 10 = false → ∀ g, (V 9).ownBlock = some g → (V 7).ownBlock ≠ some g
  b10 : L 10 = true → W.ownsRow b 37 7 (V 10) (PP ++ [p]).length (pcellsL (PP ++ [p]))
  o4 : L 4 = true → L 2 = true
  o10 : L 10 = true → L 7 = true ∧ L 9 = true
  o12 : L 12 = true → L 4 = true ∧ L 10 = true ∧ L 11 = true
  o13 : L 13 = true → L 12 = true
  o14 : L 14 = true → L 13 = true
  o15 : L 15 = true → L 13 = true
  o17 : L 17 = true → L 14 = true ∧ L 16 = true
  o18 : L 18 = true → L 15 = true
  f : L 12 = true → ∃ s1 s2 x, V 12 = .tuple #[.agg #[s1, s2], .int .i64 x] ∧ RunV b (R ++ M) (certsOf (PP ++ [p])) bnd s1 s2 x W ∧ (L 13 = true → V 13 = .tuple #[.agg #[s1, s2], .int .i64 x]) ∧ (L 14 = true → V 14 = .agg #[s1, s2]) ∧ (L 15 = true → V 15 = .int .i64 x) ∧ (L 17 = true → ∃ g, V 16 = .pointer (some ⟨g, 0, none⟩) ∧ W.heap[g]? = some (.cells #[s1, s2] 57 (0, 0))) ∧ (L 18 = true → V 18 = .int .i64 x)
  d : L 16 = true → L 17 = false → ∃ g, V 16 = .pointer (some ⟨g, 0, none⟩) ∧ W.heap[g]? = some (.cells #[.slice none 0 0, .slice none 0 0] 57 (0, 0)) ∧ b ≤ g
theorem InvM.chg0 {w0 : World} {b : Nat} {R M : List BRul} {PP : List (BCert × Value)} {p : BCert × Value} {bnd : Int} {vr vm vc : Value} {L : Nat → Bool} {V : Nat → Value} {W W' : World} (h : InvM w0 b R M PP p bnd vr vm vc L V W) (hc : Chg (fun _ => False) W W') : InvM w0 b R M PP p bnd vr vm vc L V W' :=
  ⟨h.k.trans hc, h.r1, h.r3, h.r6, h.r8, h.r11, (fun x y => own_chg (h.a0 x y) hc (fun _ _ e => e)), (fun x y => own_chg (h.a2 x y) hc (fun _ _ e => e)), (fun x => own_chg (h.a4 x) hc (fun _ _ e => e)), (fun x y => own_chg (h.b5 x y) hc (fun _ _ e => e)), (fun x y => own_chg (h.b7 x y) hc (fun _ _ e => e)), (fun x y => ⟨(h.c9 x y).1, own_chg (h.c9 x y).2 hc (fun _ _ e => e)⟩), h.ap5, h.ap7, (fun x => own_chg (h.b10 x) hc (fun _ _ e => e)), h.o4, h.o10, h.o12, h.o13, h.o14, h.o15, h.o17, h.o18, (fun x => by
    obtain ⟨s1, s2, x, e, q1, q3, q4, q5, q6, q7⟩ := h.f x
    exact ⟨s1, s2, x, e, q1.chg hc (fun _ q => q.elim), q3, q4, q5, (fun y => by
      obtain ⟨g, e1, e2⟩ := q6 y
      exact ⟨g, e1, hc.obj (fun e => e) e2⟩), q7⟩), (fun x y => by
    obtain ⟨g, e1, e2, e3⟩ := h.d x y
    exact ⟨g, e1, hc.obj (fun e => e) e2, e3⟩)⟩
theorem wpList_valG {P : Program} {ops : Array Oper} {rest : List Oper} {o : Oper} {a : Act} {w : World} {Q : Exit → Act → World → Prop} (hw : Region.wanted o (yielded ops a.tmps) = true) (v : Value) (w' : World) (hrun : (execOp a.eval o).run P w = .ok (.value v) w')
    (h : wpList P ops Q rest (a.put o.dst v) w') : wpList P ops Q (o :: rest) a w := by
  unfold wpList
  rw [if_pos hw]
  left
  unfold Oper.wp
  rw [hrun, Oper.upon_value]
  exact h
theorem wpList_callsG {P : Program} {ops : Array Oper} {rest : List Oper} {o : Oper} {a : Act} {w : World} {Q : Exit → Act → World → Prop} (hw : Region.wanted o (yielded ops a.tmps) = true) (f : FuncId) (args : Array Value) (hrun : (execOp a.eval o).run P w = .ok (.enter f args) w) {Post : Ending → World → Prop} (hc : Calls P f args w Post)
    (h : ∀ e w', Post e w' → ∃ v, e = .returned v ∧ wpList P ops Q rest (a.put o.dst v) w') : wpList P ops Q (o :: rest) a w := by
  unfold wpList
  rw [if_pos hw]
  left
  unfold Oper.wp
  rw [hrun, Oper.upon_enter]
  refine hc.mono fun e w'' hh => ?_
  obtain ⟨v, rfl, h2⟩ := h e w'' hh
  exact h2
theorem wanted_yes {o : Oper} {y : Nat → Option Bool} {j : Nat} {b : Bool} (hg : o.guard = some (j, b)) (hy : y j = some b) : Region.wanted o y = true := by
  unfold Region.wanted; simp [hg, hy]
theorem wanted_no {o : Oper} {y : Nat → Option Bool} {j : Nat} {b c : Bool} (hg : o.guard = some (j, b)) (hy : y j = some c) (hne : c ≠ b) : Region.wanted o y = false := by
  unfold Region.wanted; simp [hg, hy, hne]
theorem canon_yield {ops : Array Oper} {a : Act} {L : Nat → Bool} {V : Nat → Value} {j d : Nat} {b : Bool} (hd : dstOf ops j = some d) (h : d < a.tmps.size) (ho : owner ops d = some j) (hl : L j = true) (hv : V j = .bool b) : yielded ops (canon ops a L V).tmps j = some b := by
  unfold yielded
  rw [show (ops[j]?).bind (·.dst) = some d from hd]
  show (match (canonT ops a.tmps L V)[d]? with | some (.bool b) => some b | _ => none) = some b
  rw [canonT_get _ _ _ h, ho]
  simp only [hl, if_true, hv]
end Go.Proofs.Ytdgmjablkdemmaa
