/-
  Layer 12: a slice of certificates, cut.
-/
import Derived.Test.YtdgmjablkdemmaaUTurn
namespace Go.Proofs.Ytdgmjablkdemmaa
open Go.RowKit Go.Maps

theorem take_certs {w : World} {la : Option Addr} {P : List (BCert × Value)} {cap n : Nat} {G : Nat → Prop} (h : CertsAt w (.slice la P.length cap) G P) (hn : n ≤ P.length) : CertsAt w (.slice la (P.take n).length cap) G (P.take n) := by
  obtain ⟨la', cap', e, h2, h3⟩ := h
  cases e
  refine ⟨_, _, rfl, by rw [List.length_take]; omega, fun j p hj => ?_⟩
  rw [List.getElem?_take] at hj
  split at hj
  · exact h3 j p hj
  · cases hj
theorem take_run {la : Option Addr} {n m cap : Nat} (W : World) (hn : n ≤ m) (hc : m ≤ cap) : (Instr.slice 54 (.slice la m cap) none (some (.int .i64 (n : Int))) none).run Try.prog W = .ok (.slice la n cap) W := by
  have h1 : (0 : Int) ≤ (n : Int) := by omega
  have h2 : (n : Int) ≤ (cap : Int) := by omega
  go_simp
theorem drop_certs {w : World} {la : Option Addr} {P : List (BCert × Value)} {cap n : Nat} {G : Nat → Prop} (h : CertsAt w (.slice la P.length cap) G P) (hn : n ≤ P.length) (hcap : n = P.length ∨ P.length ≤ cap) (hnil : la = none → P.length = 0 ∧ cap = 0) :
    ∃ la' cap', CertsAt w (.slice la' (P.drop n).length cap') G (P.drop n) ∧ (la' = none → (P.drop n).length = 0 ∧ cap' = 0) ∧ ∀ w', (Instr.slice 54 (.slice la P.length cap) (some (.int .i64 (n : Int))) none none).run Try.prog w' = .ok (.slice la' (P.drop n).length cap') w' := by
  have hel : Try.prog.elem 54 = 37 := by kernel_rfl
  have hu : Try.prog.underlying 54 = some (.slice (Try.prog.elem 54)) := by rw [hel]; exact Try.underlying54
  have hsz : ∀ w', (sizeOf (Try.prog.elem 54)).run Try.prog w' = .ok 7 w' := fun w' => by rw [hel]; kernel_rfl
  obtain ⟨_, _, e, h2, h3⟩ := h
  cases e
  have run : ∀ w', (Instr.slice 54 (.slice la P.length cap) (some (.int .i64 (n : Int))) none none).run Try.prog w' = .ok (sliced la n P.length cap 7) w' := fun w' => by
    rw [run_slice_l (P := Try.prog) (t := 54) (a := la) (len := P.length) (cap := cap) (ht := hu) (kl := .i64) (l := (n : Int)) (h0 := by omega) (h1 := by omega), hsz]
    simp [Result.andThen]
  have hlen : (P.drop n).length = P.length - n := List.length_drop
  unfold sliced at run
  generalize ha : (if cap = n then la else la.map (·.add (n * 7))) = la' at run
  refine ⟨la', cap - n, ⟨la', cap - n, rfl, by omega, fun j r hj => ?_⟩, fun e => ?_, fun w' => by rw [run, hlen]⟩
  · have hjl := (List.getElem?_eq_some_iff.1 hj).1
    rw [if_neg (by omega)] at ha
    rw [List.getElem?_drop] at hj
    obtain ⟨g, o, sa, sc, q1, q2, q3, q4, q5, q6, q7, q8, q9, q10, q11⟩ := h3 _ _ hj
    subst q1
    have ex : ∀ z, o + n * 7 + j * 7 + z = o + (n + j) * 7 + z := fun z => by omega
    refine ⟨g, o + n * 7, sa, sc, by rw [← ha]; simp [addr_add], q2, q3, ?_, ?_, ?_, ?_, ?_, ?_, ?_, q11⟩
    · have := ex 0; rw [Nat.add_zero, Nat.add_zero] at this; rw [this]; exact q4
    · rw [ex]; exact q5
    · rw [ex]; exact q6
    · rw [ex]; exact q7
    · rw [ex]; exact q8
    · rw [ex]; exact q9
    · rw [ex]; exact q10
  · subst e
    have hl : la = none := by
      cases la with
      | none => rfl
      | some x => exfalso; split at ha <;> cases ha
    obtain ⟨z1, z2⟩ := hnil hl
    omega
end Go.Proofs.Ytdgmjablkdemmaa
