/-
  DecideWhy, walked.
  Each grant has a why that the look takes, and the look takes none, where the answer is Deny.
  (Where what is read is of bulk at most 1048576.)
-/
import Derived.Test.YthdfplafihmejaaGreatVArgs
import Derived.Test.YthdfplafihmejaaGreatVAwake
import Derived.Test.YthdfplafihmejaaGreatVLarge
import Derived.Test.YthdfplafihmejaaGreatVWrap
import Derived.Deep.CondSized
namespace Go.Proofs.YthdfplafihmejaaGreat
open Go.RowKit Go.Maps

theorem Fit17.small {R : List BRul} {C : List BCert} {L : List BEnt} {c : List ByteArray} (h : Fit17 R C L c) (h4 : R.length ≤ 400) : ∀ r ∈ R, r.1.size ≤ 100 ∧ r.2.size ≤ 100 := by
 have := h.word
 rwa [List.take_of_length_le (by omega)] at this
theorem Fit17.ask {R : List BRul} {P : List (BCert × Value)} {L : List BEnt} {c : List ByteArray} (h : Fit17 R (certsOf P) L c) {w W : World} {xv : Value} {ra : Option Addr} {rc : Nat} {pv lv cv : Value} {op b : Int} (hx : AskArg w xv ra R rc pv lv cv P L op c b) (k : Chg (fun _ => False) w W) : AskAt W ra R rc pv lv cv P L c (· < W.heap.size) :=
 ⟨⟨(hx.rules.at_.chg k (fun _ _ e => e)).imp (fun _ hj => Nat.lt_of_lt_of_le hj k.size), fun e => hx.rules.nil _ _ (by rw [e]), by have := hx.fit.2; omega, fun h4 r hr => by have := (h.small h4 r hr).1; omega, (hx.certs.at_.chg k (fun _ _ e => e)).up (fun _ hj => Nat.lt_of_lt_of_le hj k.size), by have := h.certs; rw [certsOf_length] at this; omega, fun _ hj => hj⟩,
  (hx.ents.chg k (fun _ _ e => e)).up (fun _ hj => Nat.lt_of_lt_of_le hj k.size), by have := h.ents; omega, (hx.set.at_.chg k (fun _ _ e => e)).up (fun _ hj => Nat.lt_of_lt_of_le hj k.size)⟩
theorem large17_at {w W : World} {xv : Value} {ra : Option Addr} {R : List BRul} {rc : Nat} {pv lv cv : Value} {P : List (BCert × Value)} {L : List BEnt} {op : Int} {c : List ByteArray} {b : Int} (hx : AskArg w xv ra R rc pv lv cv P L op c b) (k : Chg (fun _ => False) w W) : Calls Tryz.prog 10 #[.agg #[.slice ra R.length rc, pv, lv, .int .i64 op, cv, .int .i64 b]] W (Large17Res W R (certsOf P) L c) :=
 large17_any W ra R rc pv lv cv P L op b c ((hx.rules.at_.chg k (fun _ _ e => e)).imp (fun _ hj => Nat.lt_of_lt_of_le hj k.size)) ((hx.certs.at_.chg k (fun _ _ e => e)).up (fun _ hj => Nat.lt_of_lt_of_le hj k.size)) ((hx.ents.chg k (fun _ _ e => e)).up (fun _ hj => Nat.lt_of_lt_of_le hj k.size)) ((hx.set.chg k (fun _ _ e => e)).up (fun _ hj => Nat.lt_of_lt_of_le hj k.size)) hx.up
end Go.Proofs.YthdfplafihmejaaGreat

namespace Go.Proofs.YthdfplafihmejaaGreat.DecideWhyP
open Go.ChangeShapes Go.WideShapes Go.ChangeAt Go.RowKit

end Go.Proofs.YthdfplafihmejaaGreat.DecideWhyP
namespace Go.Proofs.YthdfplafihmejaaGreat
end Go.Proofs.YthdfplafihmejaaGreat
