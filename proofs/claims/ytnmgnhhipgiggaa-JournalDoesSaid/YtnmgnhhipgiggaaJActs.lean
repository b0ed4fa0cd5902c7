/-
  Layer 20: acts, as they are read; large.
-/
import Derived.Test.YtnmgnhhipgiggaaJSame
namespace Go.Proofs.Ytnmgnhhipgiggaa
open Go.RowKit

structure ActV where
  kind : Int
  s : ByteArray
  n : Int
  kv : Value
  keep : List Bool
/-- A slice of acts, to be read. -/
def ActsAt (w : World) (v : Value) (G : Nat → Prop) (l : List ActV) : Prop :=
  ∃ la cap, v = .slice la l.length cap ∧ l.length ≤ maxLen ∧ ∀ j x, l[j]? = some x → ∃ lb lo, la = some ⟨lb, lo, none⟩ ∧ G lb ∧
    w.cell? ⟨lb, lo + j * 4, none⟩ = some (.int .i64 x.kind) ∧ w.cell? ⟨lb, lo + j * 4 + 1, none⟩ = some (.string x.s) ∧ w.cell? ⟨lb, lo + j * 4 + 2, none⟩ = some (.int .i64 x.n) ∧ w.cell? ⟨lb, lo + j * 4 + 3, none⟩ = some x.kv ∧
    x.s.size ≤ maxLen ∧ x.n ≤ 9223372036854775807 ∧ BoolsAt w x.kv G x.keep

theorem large_yes (w : World) (kind n : Int) (s : ByteArray) (ka : Option Addr) (kl kc : Nat) (hs : s.size ≤ maxLen) (hk : kl ≤ maxLen) (h : 3000 < s.size ∨ 200 < kl) :
    Calls Try.prog 13 #[.agg #[.int .i64 kind, .string s, .int .i64 n, .slice ka kl kc]] w fun e w' => e = .returned (.bool true) ∧ Chg (fun _ => False) w w' := by
  unfold maxLen at hs hk
  by_cases h1 : 3000 < s.size
  · clear h
    go_enter Try.func13, Try.ntmps13
    go_wp2
    go_ret
    exact ⟨rfl, chg_alloc _ _ _⟩
  · have h2 : 200 < kl := by omega
    have hd : decide (3000 < (s.size : Int)) = false := by rw [decide_eq_false_iff_not]; omega
    have hd2 : decide (200 < (kl : Int)) = true := by rw [decide_eq_true_eq]; omega
    clear h
    go_enter Try.func13, Try.ntmps13
    go_wp2
    go_ret
    exact ⟨rfl, chg_alloc _ _ _⟩
theorem large_no (w : World) (kind n : Int) (s : ByteArray) (ka : Option Addr) (kl kc : Nat) (hs : s.size ≤ 3000) (hk : kl ≤ 200) :
    Calls Try.prog 13 #[.agg #[.int .i64 kind, .string s, .int .i64 n, .slice ka kl kc]] w fun e w' => e = .returned (.bool false) ∧ Chg (fun _ => False) w w' := by
  have hd : decide (3000 < (s.size : Int)) = false := by rw [decide_eq_false_iff_not]; omega
  have hd2 : decide (200 < (kl : Int)) = false := by rw [decide_eq_false_iff_not]; omega
  go_enter Try.func13, Try.ntmps13
  go_wp2
  go_ret
  exact ⟨rfl, chg_alloc _ _ _⟩
end Go.Proofs.Ytnmgnhhipgiggaa
