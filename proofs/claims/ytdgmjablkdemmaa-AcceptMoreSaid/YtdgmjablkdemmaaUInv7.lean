/-
  Layer 12: one more certificate behind those that came in, and a run: what holds on the way.
-/
import Derived.Test.YtdgmjablkdemmaaULOrd
import Derived.Test.YtdgmjablkdemmaaInv2
namespace Go.Proofs.Ytdgmjablkdemmaa
open Go.RowKit Go.Maps

/-- What a run told. -/
def RunV (b : Nat) (R : List BRul) (C : List BCert) (bnd : Int) (s1 s2 : Value) (x : Int) (W : World) : Prop :=
  ∃ oa on oc va vn vc, s1 = .slice oa on oc ∧ s2 = .slice va vn vc ∧ ((x ≠ 0 ∧ acceptE R C bnd = .error x) ∨
    (x = 0 ∧ ∃ s, acceptE R C bnd = .ok s ∧ on = s.order.length ∧ vn = s.rules.length ∧ W.ownsRow b 3 1 (.slice oa on oc) s.order.length (ints s.order) ∧ W.ownsRow b 64 2 (.slice va vn vc) s.rules.length (ruleCells s.rules)))
theorem RunV.chg {S : Nat → Prop} {b : Nat} {R : List BRul} {C : List BCert} {bnd : Int} {s1 s2 : Value} {x : Int} {W W' : World} (h : RunV b R C bnd s1 s2 x W) (hc : Chg S W W') (hS : ∀ k, S k → ∃ cs fz, W.heap[k]? = some (.cells cs 57 fz)) : RunV b R C bnd s1 s2 x W' := by
  obtain ⟨oa, on, oc, va, vn, vc, e1, e2, h⟩ := h
  refine ⟨oa, on, oc, va, vn, vc, e1, e2, h.imp id (fun ⟨q, s, hs, q1, q2, q3, q4⟩ => ⟨q, s, hs, q1, q2, own_chg q3 hc (fun k hk hq => ?_), own_chg q4 hc (fun k hk hq => ?_)⟩)⟩
  · obtain ⟨cs, fz, ho⟩ := hS k hq
    exact row_ne q3 ho (by decide) hk
  · obtain ⟨cs, fz, ho⟩ := hS k hq
    exact row_ne q4 ho (by decide) hk
theorem runV_any {w : World} {ra : Option Addr} {R : List BRul} {rc : Nat} {v : Value} {P : List (BCert × Value)} {G : Nat → Prop} (h : RunArgs w ra R rc v P G) (bnd : Int) {b : Nat} (hb : b ≤ w.heap.size) :
    Calls Try.prog 26 #[.slice ra R.length rc, v, .int .i64 bnd] w fun e w' => ∃ s1 s2 x, e = .returned (.tuple #[.agg #[s1, s2], .int .i64 x]) ∧ RunV b R (certsOf P) bnd s1 s2 x w' ∧ Chg (fun _ => False) w w' :=
  (run_any w ra R rc v P bnd G h.rules h.nil h.many h.size h.certs h.few h.low).mono fun e w' ⟨hc, hr⟩ => by
    rcases hr with ⟨j, hj, hk, he⟩ | ⟨s, oa, va, oc, vc, hs, he, h1, h2⟩
    · exact ⟨_, _, _, he, ⟨_, _, _, _, _, _, rfl, rfl, .inl ⟨hj, hk⟩⟩, hc⟩
    · exact ⟨_, _, _, he, ⟨_, _, _, _, _, _, rfl, rfl, .inr ⟨rfl, s, hs, rfl, rfl, own_base h1 hb, own_base h2 hb⟩⟩, hc⟩
structure Inv7 (w0 : World) (b : Nat) (R : List BRul) (PP : List (BCert × Value)) (p : BCert × Value) (bnd : Int) (vr vc kk ptr : Value) (L : Nat → Bool) (V : Nat → Value) (W : World) : Prop where
  k : Chg (fun _ => False) w0 W
  r0 : L 0 = true → V 0 = vr
  r2 : L 2 = true → V 2 = vc
  r4 : L 4 = true → V 4 = vc
  r5 : L 5 = true → V 5 = kk
  r6 : L 6 = true → V 6 = ptr
  r7 : L 7 = true → V 7 = certV p.1 p.2
  r10 : L 10 = true → V 10 = .int .i64 bnd
  a1 : L 1 = true → L 3 = false → W.ownsRow b 37 7 (V 1) 0 []
  a2 : L 3 = true → L 9 = false → W.ownsRow b 37 7 (V 3) PP.length (pcellsL PP)
  c8 : L 8 = true → L 9 = false → (∃ g, V 8 = .slice (some ⟨g, 0, none⟩) 1 1) ∧ W.ownsRow b 37 7 (V 8) 1 (pcellsL [p])
  ap1 : L 1 = true → L 3 = false → L 8 = true → L 9 = false → ∀ g, (V 8).ownBlock = some g → (V 1).ownBlock ≠ some g
  ap2 : L 3 = true → L 8 = true → L 9 = false → ∀ g, (V 8).ownBlock = some g → (V 3).ownBlock ≠ some g
  b9 : L 9 = true → W.ownsRow b 37 7 (V 9) (PP ++ [p]).length (pcellsL (PP ++ [p]))
  o9 : L 9 = true → L 3 = true ∧ L 8 = true
  o11 : L 11 = true → L 0 = true ∧ L 9 = true ∧ L 10 = true
  o12 : L 12 = true → L 11 = true
  o13 : L 13 = true → L 12 = true
  o14 : L 14 = true → L 12 = true
  o16 : L 16 = true → L 13 = true ∧ L 15 = true
  o17 : L 17 = true → L 14 = true
  f : L 11 = true → ∃ s1 s2 x, V 11 = .tuple #[.agg #[s1, s2], .int .i64 x] ∧ RunV b R (certsOf (PP ++ [p])) bnd s1 s2 x W ∧ (L 12 = true → V 12 = .tuple #[.agg #[s1, s2], .int .i64 x]) ∧ (L 13 = true → V 13 = .agg #[s1, s2]) ∧ (L 14 = true → V 14 = .int .i64 x) ∧ (L 16 = true → ∃ g, V 15 = .pointer (some ⟨g, 0, none⟩) ∧ W.heap[g]? = some (.cells #[s1, s2] 57 (0, 0))) ∧ (L 17 = true → V 17 = .int .i64 x)
  d : L 15 = true → L 16 = false → ∃ g, V 15 = .pointer (some ⟨g, 0, none⟩) ∧ W.heap[g]? = some (.cells #[.slice none 0 0, .slice none 0 0] 57 (0, 0)) ∧ b ≤ g
theorem Try.sizeResult : (Try.prog.info? 57).map (·.size) = some 2 := by kernel_rfl
theorem Inv7.chg0 {w0 : World} {b : Nat} {R : List BRul} {PP : List (BCert × Value)} {p : BCert × Value} {bnd : Int} {vr vc kk ptr : Value} {L : Nat → Bool} {V : Nat → Value} {W W' : World} (h : Inv7 w0 b R PP p bnd vr vc kk ptr L V W) (hc : Chg (fun _ => False) W W') : Inv7 w0 b R PP p bnd vr vc kk ptr L V W' :=
  ⟨h.k.trans hc, h.r0, h.r2, h.r4, h.r5, h.r6, h.r7, h.r10, fun x y => own_chg (h.a1 x y) hc (fun _ _ e => e), fun x y => own_chg (h.a2 x y) hc (fun _ _ e => e), fun x y => ⟨(h.c8 x y).1, own_chg (h.c8 x y).2 hc (fun _ _ e => e)⟩, h.ap1, h.ap2, fun x => own_chg (h.b9 x) hc (fun _ _ e => e), h.o9, h.o11, h.o12, h.o13, h.o14, h.o16, h.o17, fun x => by
    obtain ⟨s1, s2, x, e, q1, q2, q3, q4, q5, q6⟩ := h.f x
    exact ⟨s1, s2, x, e, q1.chg hc (fun _ q => q.elim), q2, q3, q4, fun y => by
      obtain ⟨g, e1, e2⟩ := q5 y
      exact ⟨g, e1, hc.obj (fun e => e) e2⟩, q6⟩, fun x y => by
    obtain ⟨g, e1, e2, e3⟩ := h.d x y
    exact ⟨g, e1, hc.obj (fun e => e) e2, e3⟩⟩
end Go.Proofs.Ytdgmjablkdemmaa
