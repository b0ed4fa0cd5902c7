/-
  The reference's run, as the arguments are.
-/
import Derived.Test.YtjifdfhibkipnaaGreatDRun
namespace Go.Proofs.YtjifdfhibkipnaaGreat
open Go.RowKit Go.Maps

section
variable {w : World} {ra : Option Addr} {R : List BRul} {rc : Nat} {v : Value} {P : List (BCert × Value)} {G : Nat → Prop}
theorem rrun_ok (h : RunArgs w ra R rc v P G) (h47 : Fit47 R) (hcs : ∀ c ∈ certsOf P, c.sp.size ≤ 140737488355328 ∧ Sizes c.fr) {b : Int} {s : ASt} (hs : acceptE R (certsOf P) b = .ok s) : Calls Tryz.prog 22 #[.slice ra R.length rc, v, .int .i64 b] w (RunOk w s) :=
 (rrun12_any w ra R rc v P b G h.rules h.nil h.many h.size h.certs h.few h47 hcs).mono fun e w' ⟨hc, hr⟩ => by
  rcases hr with ⟨k, _, hk, _⟩ | ⟨t, oa, va, oc, vc, ht, he, h1, h2⟩
  ·rw [hs] at hk; cases hk
  ·rw [hs] at ht; cases ht
   exact ⟨oa, va, oc, vc, he, h1, h2, hc⟩
theorem rrun_err (h : RunArgs w ra R rc v P G) (h47 : Fit47 R) (hcs : ∀ c ∈ certsOf P, c.sp.size ≤ 140737488355328 ∧ Sizes c.fr) {b k : Int} (hs : acceptE R (certsOf P) b = .error k) : Calls Tryz.prog 22 #[.slice ra R.length rc, v, .int .i64 b] w (RunErr w k) :=
 (rrun12_any w ra R rc v P b G h.rules h.nil h.many h.size h.certs h.few h47 hcs).mono fun e w' ⟨hc, hr⟩ => by
  rcases hr with ⟨j, hj, hk, he⟩ | ⟨t, oa, va, oc, vc, ht, he, h1, h2⟩
  ·rw [hs] at hk; cases hk
   exact ⟨hj, he, hc⟩
  ·rw [hs] at ht; cases ht
end
end Go.Proofs.YtjifdfhibkipnaaGreat
