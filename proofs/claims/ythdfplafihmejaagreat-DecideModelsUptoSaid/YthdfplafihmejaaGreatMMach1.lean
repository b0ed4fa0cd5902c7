/-
  Package word: Len, odd, At, May, each by a contract over the plain model.
  Package match: a machine where it lies: states, each with a map of atoms and a list of words; what its blocks are, and what each step of put leaves.
  Package match: what each step of put leaves of a machine.
  Package match: a state more.
  Package match: put.
  Package match: New.
-/
import Derived.Test.YthdfplafihmejaaGreatKit2
import Derived.Test.YthdfplafihmejaaGreatRPlain
import Derived.Maps.Own
import Derived.Maps.OwnOps
import Derived.Maps.OwnSet
import Derived.Maps.Views
import Derived.WalkSpells
import Derived.Carry
namespace Go.Proofs.YthdfplafihmejaaGreat
open Go.RowKit

theorem wlen_any (w : World) (s : ByteArray) (hs : s.size ≤ maxLen) :
  Calls Tryz.prog 80 #[.string s] w fun e w' => e = .returned (.int .i64 (alen s.data.toList : Nat)) ∧ w = w' := by
 unfold maxLen at hs
 have HE := Lib.hid (show alen s.data.toList = s.size / 2 by unfold alen; rw [size_list])
 go_enter Tryz.func80, Tryz.ntmps80
 go_wp2
 go_ret
 refine ⟨?_, rfl⟩
 rw [HE.out]
 show Ending.returned (.int .i64 ((s.size : Int) / 2)) = _
 congr 2
theorem wodd_yes (w : World) (s : ByteArray) (hs : s.size ≤ maxLen) (h : s.size % 2 ≠ 0) :
  Calls Tryz.prog 79 #[.string s] w fun e w' => e = .returned (.bool true) ∧ w = w' := by
 unfold maxLen at hs
 have h1 : ((s.size : Int) % 2 != 0) = true := by rw [bne_iff_ne]; omega
 clear h
 go_enter Tryz.func79, Tryz.ntmps79
 go_wp2
 go_ret
 exact ⟨rfl, rfl⟩
theorem wodd_no (w : World) (s : ByteArray) (hs : s.size ≤ maxLen) (h : s.size % 2 = 0) :
  Calls Tryz.prog 79 #[.string s] w fun e w' => e = .returned (.bool false) ∧ w = w' := by
 unfold maxLen at hs
 have h1 : ((s.size : Int) % 2 != 0) = false := by rw [bne_eq_false_iff_eq]; omega
 clear h
 go_enter Tryz.func79, Tryz.ntmps79
 go_wp2
 go_ret
 exact ⟨rfl, rfl⟩
theorem or_u16 (a c : Nat) (ha : a < 256) (hc : c < 256) : bits BinOp.or IntKind.u16 ((a * 256 : Nat) : Int) (c : Int) = ((a * 256 + c : Nat) : Int) := by
 have h1 : (BitVec.ofInt 16 ((a * 256 : Nat) : Int)).toNat = a * 256 := by
  rw [BitVec.ofInt_natCast, BitVec.toNat_ofNat]; exact Nat.mod_eq_of_lt (by omega)
 have h2 : (BitVec.ofInt 16 (c : Int)).toNat = c := by
  rw [BitVec.ofInt_natCast, BitVec.toNat_ofNat]; exact Nat.mod_eq_of_lt (by omega)
 show IntKind.u16.wrap ((BitVec.ofInt 16 ((a * 256 : Nat) : Int) ||| BitVec.ofInt 16 (c : Int)).toNat : Int) = _
 rw [BitVec.toNat_or, h1, h2, nat_join 8 (a * 256) c (by simp) (by omega)]
 show ((a * 256 + c : Nat) : Int) % 65536 = _
 omega
theorem or_u16w (x y : Nat) (hx : x < 256) (hy : y < 256) : bits BinOp.or IntKind.u16 (IntKind.u16.wrap (IntKind.u16.wrap (x : Int) * 256)) (IntKind.u16.wrap (y : Int)) = ((x * 256 + y : Nat) : Int) := by
 have e1 : IntKind.u16.wrap (x : Int) = (x : Int) := by show (x : Int) % 65536 = _; omega
 have e2 : IntKind.u16.wrap (y : Int) = (y : Int) := by show (y : Int) % 65536 = _; omega
 have e3 : IntKind.u16.wrap ((x : Int) * 256) = ((x * 256 : Nat) : Int) := by show ((x : Int) * 256) % 65536 = _; omega
 rw [e1, e2, e3, or_u16 x y hx hy]
/-- Nothing but draws. -/
def Drawn (w w' : World) : Prop := ∃ n, w' = w.drewN n
theorem Drawn.refl (w : World) : Drawn w w := ⟨0, rfl⟩
theorem Drawn.drew (w : World) : Drawn w w.drew := ⟨1, rfl⟩
theorem Drawn.trans {a b c : World} (h : Drawn a b) (k : Drawn b c) : Drawn a c := by
 obtain ⟨n, rfl⟩ := h
 obtain ⟨m, rfl⟩ := k
 exact ⟨n + m, World.drewN_drewN _ _ _⟩
theorem Drawn.chg {S : Nat → Prop} {a b : World} (h : Drawn a b) : Chg S a b := by
 obtain ⟨n, rfl⟩ := h
 exact (Chg.refl S a).drewN n
theorem quiet_drawn {P : Program} {f : FuncId} {args : Array Value} {w : World} {v : Value} (h : ∀ n, Calls P f args (w.drewN n) fun e w' => e = .returned v ∧ Drawn (w.drewN n) w') {n : Nat} : Calls P f args (w.drewN n) fun e w'' => e = .returned v ∧ ∃ m, w'' = w.drewN m :=
 (h n).mono fun _ _ ⟨he, m, hm⟩ => ⟨he, n + m, by rw [hm, World.drewN_drewN]⟩
set_option maxRecDepth 100000 in
theorem wat_q (w : World) (s : ByteArray) (k : Nat) (hs : s.size ≤ maxLen) (hk : k < alen s.data.toList) :
  Calls Tryz.prog 81 #[.string s, .int .i64 k] w fun e w' => e = .returned (.int .u16 (atomAt s.data.toList k : Nat)) ∧ Drawn w w' := by
 have LEN := Lib.hid (wlen_any w s hs)
 unfold maxLen at hs
 have h2 : 2 * k + 1 < s.size := by unfold alen at hk; rw [size_list] at hk; omega
 obtain ⟨x, hx, qx⟩ : ∃ x, x < 256 ∧ (s[2 * k]'(by omega)).toNat = x := ⟨_, UInt8.toNat_lt _, rfl⟩
 obtain ⟨y, hy, qy⟩ : ∃ y, y < 256 ∧ (s[2 * k + 1]'(by omega)).toNat = y := ⟨_, UInt8.toNat_lt _, rfl⟩
 have HA := Lib.hid (show atomAt s.data.toList k = x * 256 + y by
  have hsl := size_list s
  unfold atomAt
  rw [List.getD_eq_getElem?_getD, List.getElem?_eq_getElem (by omega), List.getD_eq_getElem?_getD, List.getElem?_eq_getElem (by omega), ← qx, ← qy]; rfl)
 generalize alen s.data.toList = n at *
 generalize atomAt s.data.toList k = av at *
 have g0 : decide ((k : Int) < 0) = false := by rw [decide_eq_false_iff_not]; omega
 have g1 : decide (n ≤ k) = false := by rw [decide_eq_false_iff_not]; omega
 have a1 : IntKind.i64.wrap (2 * (k : Int)) = 2 * (k : Int) := by rw [IntKind.wrap_i64]; omega
 have a2 : IntKind.i64.wrap (2 * (k : Int) + 1) = 2 * (k : Int) + 1 := by rw [IntKind.wrap_i64]; omega
 have b1 : 0 ≤ 2 * (k : Int) := by omega
 have b2 : 2 * (k : Int) < (s.size : Int) := by omega
 have b3 : 0 ≤ 2 * (k : Int) + 1 := by omega
 have b4 : 2 * (k : Int) + 1 < (s.size : Int) := by omega
 have t1 : (2 * (k : Int)).toNat = 2 * k := by omega
 have t2 : (2 * (k : Int) + 1).toNat = 2 * k + 1 := by omega
 go_enter Tryz.func81, Tryz.ntmps81
 go_wp2_with fail
 refine (LEN.out).mono ?_
 rintro e w' ⟨rfl, rfl⟩
 go_wp2
 refine wp_still_drew (by kernel_rfl) (by kernel_rfl) ?_
 repeat still_step
 refine wpStill_nil ?_
 go_wp2
 go_ret
 refine ⟨?_, Drawn.drew _⟩
 show Ending.returned (.int .u16 (bits BinOp.or IntKind.u16 (IntKind.u16.wrap (IntKind.u16.wrap (x : Int) * 256)) (IntKind.u16.wrap (y : Int)))) = _
 rw [or_u16w x y hx hy, HA.out]

theorem mayB_no1 {l : List UInt8} (h : l.length % 2 ≠ 0) : mayB l = false := by
 rw [← Bool.not_eq_true, mayB_iff]; exact fun q => h q.1
theorem mayB_no2 {l : List UInt8} (h : ¬ (1 ≤ alen l ∧ alen l ≤ 8)) : mayB l = false := by
 rw [← Bool.not_eq_true, mayB_iff]; exact fun q => h ⟨q.2.1, q.2.2.1⟩
theorem mayB_no3 {l : List UInt8} {i : Nat} (hi : i < alen l) (h : atomAt l i = 0) : mayB l = false := by
 rw [← Bool.not_eq_true, mayB_iff]; exact fun q => q.2.2.2 i hi h
theorem wmay_q (w : World) (s : ByteArray) (hs : s.size ≤ maxLen) :
  Calls Tryz.prog 49 #[.string s] w fun e w' => e = .returned (.bool (mayB s.data.toList)) ∧ Drawn w w' := by
 have hsl := size_list s
 have LEN := Lib.hid (fun w => wlen_any w s hs)
 by_cases ho : s.size % 2 = 0
 ·have ODD := Lib.hid (wodd_no w s hs ho)
  by_cases hb : 1 ≤ alen s.data.toList ∧ alen s.data.toList ≤ 8
  ·obtain ⟨hb1, hb2⟩ := hb
   have AT := Lib.hid (fun w k hk => wat_q w s k hs hk)
   have MB := Lib.hid (show ∀ n, n = alen s.data.toList → (∀ i, i < n → atomAt s.data.toList i ≠ 0) → mayB s.data.toList = true from fun n hn h => (mayB_iff _).2 ⟨by rw [hsl]; exact ho, hb1, hb2, fun i hi => h i (by omega)⟩)
   have MN := Lib.hid (show ∀ i, i < alen s.data.toList → atomAt s.data.toList i = 0 → mayB s.data.toList = false from fun i hi h => mayB_no3 hi h)
   clear hs hsl ho
   have HN := Lib.hid (show alen s.data.toList = alen s.data.toList from rfl)
   generalize hn : alen s.data.toList = n at *
   have NN := Lib.hid hn
   clear hn HN
   have g1 : decide ((n : Int) < 1) = false := by rw [decide_eq_false_iff_not]; omega
   have g2 : decide (8 < (n : Int)) = false := by rw [decide_eq_false_iff_not]; omega
   go_enter Tryz.func49, Tryz.ntmps49
   go_wp2_with fail
   refine (ODD.out).mono ?_
   rintro e w' ⟨rfl, rfl⟩
   go_wp2_with fail
   refine (LEN.out _).mono ?_
   rintro e w' ⟨rfl, rfl⟩
   go_wp2_with fail
   refine (LEN.out _).mono ?_
   rintro e w' ⟨rfl, rfl⟩
   go_wp2_with fail
   refine (LEN.out _).mono ?_
   rintro e w' ⟨rfl, rfl⟩
   go_wp2
   go_loopw [18] (fun i wr => ∃ k : Nat, k ≤ n ∧ i = .int .i64 k ∧ Hid (∀ i, i < k → atomAt s.data.toList i ≠ 0) ∧ Drawn w wr) (fun i _ => n - (intOf i).toNat)
   case atStart => exact ⟨0, by omega, rfl, Lib.hid (fun i hi => by omega), Drawn.refl _⟩
   case round =>
    obtain ⟨k, hk, rfl, HZ, hc⟩ := hrel
    have HC := Lib.hid hc
    clear hc
    by_cases hlt : k < n
    ·go_wp2_with fail
     refine (AT.out wr k hlt).mono ?_
     rintro e w1 ⟨rfl, c1⟩
     have C1 := Lib.hid (HC.out.trans c1)
     clear c1
     have hal := atomAt_lt s.data.toList k
     by_cases hz : atomAt s.data.toList k = 0
     ·have HF := Lib.hid (MN.out k hlt hz)
      rw [hz]
      go_wp2
      go_ret
      exact ⟨by rw [HF.out]; rfl, C1.out⟩
     ·have hz1 : (((atomAt s.data.toList k : Nat) : Int) == 0) = false := by rw [beq_eq_false_iff_ne]; omega
      have HZ2 := Lib.hid (show ∀ i, i < k + 1 → atomAt s.data.toList i ≠ 0 from fun i hi => by
       rcases Nat.lt_or_ge i k with q | q
       ·exact HZ.out i q
       ·obtain rfl : i = k := by omega
        exact hz)
      clear hz
      generalize atomAt s.data.toList k = ak at *
      go_wp2
      go_roundw
      case rel => exact ⟨k + 1, by omega, by go_num, HZ2, C1.out⟩
      case measure => simp [intOf]; omega
    ·obtain rfl : k = n := by omega
     have HT := Lib.hid (MB.out k rfl HZ.out)
     go_wp2
     go_ret
     exact ⟨by rw [HT.out]; rfl, HC.out⟩
  ·have HF := Lib.hid (mayB_no2 hb)
   clear hs hsl ho
   generalize alen s.data.toList = n at *
   by_cases h1 : n < 1
   ·clear hb
    go_enter Tryz.func49, Tryz.ntmps49
    go_wp2_with fail
    refine (ODD.out).mono ?_
    rintro e w' ⟨rfl, rfl⟩
    go_wp2_with fail
    refine (LEN.out _).mono ?_
    rintro e w' ⟨rfl, rfl⟩
    go_wp2
    go_ret
    exact ⟨by rw [HF.out]; rfl, Drawn.refl _⟩
   ·have h2 : 8 < n := by omega
    have g1 : decide ((n : Int) < 1) = false := by rw [decide_eq_false_iff_not]; omega
    have g2 : decide (8 < (n : Int)) = true := by rw [decide_eq_true_eq]; omega
    clear hb h1
    go_enter Tryz.func49, Tryz.ntmps49
    go_wp2_with fail
    refine (ODD.out).mono ?_
    rintro e w' ⟨rfl, rfl⟩
    go_wp2_with fail
    refine (LEN.out _).mono ?_
    rintro e w' ⟨rfl, rfl⟩
    go_wp2_with fail
    refine (LEN.out _).mono ?_
    rintro e w' ⟨rfl, rfl⟩
    go_wp2
    go_ret
    exact ⟨by rw [HF.out]; rfl, Drawn.refl _⟩
 ·have ODD := Lib.hid (wodd_yes w s hs ho)
  have HF := Lib.hid (mayB_no1 (l := s.data.toList) (by rw [hsl]; exact ho))
  clear hs hsl ho LEN
  go_enter Tryz.func49, Tryz.ntmps49
  go_wp2_with fail
  refine (ODD.out).mono ?_
  rintro e w' ⟨rfl, rfl⟩
  go_wp2
  go_ret
  exact ⟨by rw [HF.out]; rfl, Drawn.refl _⟩
theorem wat_in (w : World) (s : ByteArray) (k : Nat) (hs : s.size ≤ maxLen) (hk : k < alen s.data.toList) :
  Calls Tryz.prog 81 #[.string s, .int .i64 k] w fun e w' => e = .returned (.int .u16 (atomAt s.data.toList k : Nat)) ∧ Chg (fun _ => False) w w' :=
 (wat_q w s k hs hk).mono fun _ _ ⟨he, hc⟩ => ⟨he, hc.chg⟩
theorem wmay_any (w : World) (s : ByteArray) (hs : s.size ≤ maxLen) :
  Calls Tryz.prog 49 #[.string s] w fun e w' => e = .returned (.bool (mayB s.data.toList)) ∧ Chg (fun _ => False) w w' :=
 (wmay_q w s hs).mono fun _ _ ⟨he, hc⟩ => ⟨he, hc.chg⟩
end Go.Proofs.YthdfplafihmejaaGreat

namespace Go.Proofs.YthdfplafihmejaaGreat
open Go.RowKit Go.Maps

theorem Tryz.atomKeyed : Keyed Tryz.prog 62 := int_keyed Tryz.underlying62
theorem Tryz.zeroInt (w : World) : (zeroValue 3).run Tryz.prog w = .ok (.int .i64 0) w := by kernel_rfl
def akey (a : Nat) : Lit := .int .u16 (a : Int)
theorem akey_of (a : Nat) (h : a < 65536) : keyOf Tryz.prog 62 (.int .u16 (a : Int)) = some (akey a) :=
 keyOf_int_mk Tryz.underlying62 (by simp only [Lit.wf, Bool.and_eq_true, decide_eq_true_eq]; exact ⟨by show (0 : Int) ≤ _; omega, by show _ ≤ (65535 : Int); omega⟩)
theorem akey_inj {a b : Nat} (h : akey a = akey b) : a = b := by
 simp only [akey, Lit.int.injEq, true_and] at h; omega
abbrev AMap (w : World) (bm n : Nat) (D : DataW Unit) : Prop := w.ownsMap Tryz.prog 62 (plainElem Tryz.prog 3) bm n D
/-- What a state's map says: from atoms to states. -/
def EdgeMap (w : World) (base L : Nat) (mv : Value) (f : Nat → Option Nat) : Prop :=
 (mv = .map none ∧ ∀ a, a < 65536 → f a = none) ∨
 ∃ bm n D, mv = .map (some bm) ∧ base ≤ bm ∧ AMap w bm n D ∧ n ≤ L ∧ ∀ a, a < 65536 → Maps.has D (akey a) = (f a).isSome ∧ ∀ j, f a = some j → D.atKey (akey a) (.lit (.int .i64 0)) = .lit (.int .i64 (j : Int))
def mapBlock : Value → Option Nat
 | .map r => r
 | _ => none
theorem EdgeMap.chg {S : Nat → Prop} {w w' : World} {base L : Nat} {mv : Value} {f : Nat → Option Nat} (h : EdgeMap w base L mv f) (hc : Chg S w w') (hs : ∀ k, mapBlock mv = some k → ¬ S k) : EdgeMap w' base L mv f := by
 rcases h with h | ⟨bm, n, D, rfl, hb, ⟨es, clock, hh, r⟩, q⟩
 ·exact .inl h
 ·exact .inr ⟨bm, n, D, rfl, hb, ⟨es, clock, hc.obj (hs bm rfl) hh, r⟩, q⟩
theorem EdgeMap.mono {w : World} {base L L' : Nat} {mv : Value} {f : Nat → Option Nat} (h : EdgeMap w base L mv f) (hl : L ≤ L') : EdgeMap w base L' mv f := by
 rcases h with h | ⟨bm, n, D, rfl, hb, hm, hn, q⟩
 ·exact .inl h
 ·exact .inr ⟨bm, n, D, rfl, hb, hm, by omega, q⟩
theorem EdgeMap.look {w : World} {base L : Nat} {mv : Value} {f : Nat → Option Nat} (h : EdgeMap w base L mv f) {a : Nat} (ha : a < 65536) :
  ∃ c : Int, (Instr.lookup 271 mv (.int .u16 (a : Int)) true).run Tryz.prog w = .ok (.tuple #[.int .i64 c, .bool (f a).isSome]) w ∧ ∀ j, f a = some j → c = (j : Int) := by
 rcases h with ⟨rfl, h⟩ | ⟨bm, n, D, rfl, hb, hown, hn, q⟩
 ·refine ⟨0, ?_, fun j hj => by rw [h a ha] at hj; cases hj⟩
  have := Maps.look_nil (w := w) true Tryz.atomKeyed Tryz.underlying271 (Tryz.zeroInt w) (akey_of a ha)
  rw [h a ha]
  exact this
 ·obtain ⟨q1, q2⟩ := q a ha
  obtain ⟨v, ps, hrun, hv⟩ := hown.look_ok Tryz.atomKeyed Tryz.underlying271 (Tryz.zeroInt w) (plainElem_int Tryz.underlying3 (by decide)) (akey_of a ha)
  obtain ⟨c, rfl, hc, hwc⟩ := plainElem_int_inv Tryz.underlying3 hv
  rw [q1] at hrun
  refine ⟨c, hrun, fun j hj => ?_⟩
  have e := congrArg Prod.fst hc
  simp only at e
  rw [q2 j hj] at e
  simpa using e.symm
theorem wpList_edge {w : World} {ops : Array Oper} {rest : List Oper} {o : Oper} {a : Act} {Q : Exit → Act → World → Prop} (hgd : o.guard = none) (m x : Operand) (hop : o.op = Op.lookup 271 m x true)
  (base L : Nat) (mv : Value) (f : Nat → Option Nat) (hm : a.eval m = mv) (h : EdgeMap w base L mv f) (k : Nat) (hk : k < 65536) (hx : a.eval x = .int .u16 (k : Int))
  (hK : ∀ c : Int, (∀ j, f k = some j → c = (j : Int)) → wpList Tryz.prog ops Q rest (a.put o.dst (.tuple #[.int .i64 c, .bool (f k).isSome])) w) : wpList Tryz.prog ops Q (o :: rest) a w := by
 refine wpList_plain hgd fun K' hK' => ?_
 obtain ⟨c, hrun, hc⟩ := h.look hk
 unfold Oper.wp
 simp [execOp, hop, hm, hx, hrun, Result.andThen]
 exact hK' _ _ (hK c hc)

/-- The cells of the states. -/
def flat (cs : List (Value × Value)) : List Value := cs.flatMap fun c => [c.1, c.2]
theorem flat_length (cs : List (Value × Value)) : (flat cs).length = 2 * cs.length := by
 induction cs with
 | nil => rfl
 | cons c r ih => simp [flat] at ih ⊢; omega
theorem flat_get (cs : List (Value × Value)) : ∀ k c, cs[k]? = some c → (flat cs)[2 * k]? = some c.1 ∧ (flat cs)[2 * k + 1]? = some c.2 := by
 induction cs with
 | nil => intro k c h; simp at h
 | cons x r ih =>
  intro k c h
  rcases k with _ | k
  ·simp at h; subst h; exact ⟨rfl, rfl⟩
  ·have := ih k c (by simpa using h)
   show (x.1 :: x.2 :: flat r)[2 * (k + 1)]? = _ ∧ (x.1 :: x.2 :: flat r)[2 * (k + 1) + 1]? = _
   rw [show 2 * (k + 1) = 2 * k + 1 + 1 from by omega]
   simpa using this
theorem flat_append (a b : List (Value × Value)) : flat (a ++ b) = flat a ++ flat b := by unfold flat; rw [List.flatMap_append]
theorem flat_set1 (cs : List (Value × Value)) : ∀ k c, cs[k]? = some c → ∀ v, (flat cs).set (2 * k) v = flat (cs.set k (v, c.2)) := by
 induction cs with
 | nil => intro k c h; simp at h
 | cons x r ih =>
  intro k c h v
  rcases k with _ | k
  ·simp at h; subst h; rfl
  ·have := ih k c (by simpa using h) v
   show (x.1 :: x.2 :: flat r).set (2 * (k + 1)) v = _
   rw [show 2 * (k + 1) = 2 * k + 1 + 1 from by omega]
   simp only [List.set_cons_succ, this]; rfl
theorem flat_set2 (cs : List (Value × Value)) : ∀ k c, cs[k]? = some c → ∀ v, (flat cs).set (2 * k + 1) v = flat (cs.set k (c.1, v)) := by
 induction cs with
 | nil => intro k c h; simp at h
 | cons x r ih =>
  intro k c h v
  rcases k with _ | k
  ·simp at h; subst h; rfl
  ·have := ih k c (by simpa using h) v
   show (x.1 :: x.2 :: flat r).set (2 * (k + 1) + 1) v = _
   rw [show 2 * (k + 1) + 1 = 2 * k + 1 + 1 + 1 from by omega]
   simp only [List.set_cons_succ, this]; rfl
def ints (l : List Nat) : List Value := l.map fun (n : Nat) => .int .i64 (n : Int)
/-- The block of a cell's value: a map's or a row's. -/
def blockOf : Value → Option Nat
 | .map r => r
 | .slice (some a) _ _ => some a.block
 | _ => none
/-- From atoms to states, by the paths. -/
def edges (ps : List (List Nat)) (p : List Nat) (a : Nat) : Option Nat := if p ++ [a] ∈ ps then some (ps.idxOf (p ++ [a])) else none
structure MB where
 b : Nat
 g : Nat
 cap : Nat
 nw : Nat
/-- A machine: its block, its states' row, each state's map and words; all its blocks lie from 'base' on, and no two are one. -/
structure MachAt (w : World) (base : Nat) (B : MB) (cs : List (Value × Value)) (ps : List (List Nat)) (wh : List Nat → List Nat) : Prop where
 hb : w.heap[B.b]? = some (.cells #[.slice (some ⟨B.g, 0, none⟩) cs.length B.cap, .int .i64 B.nw] 262 (0, 0))
 hg : w.ownsRow base 273 2 (.slice (some ⟨B.g, 0, none⟩) cs.length B.cap) cs.length (flat cs)
 len : cs.length = ps.length
 em : ∀ (k : Nat) p c, ps[k]? = some p → cs[k]? = some c → EdgeMap w base ps.length c.1 (edges ps p)
 ew : ∀ (k : Nat) p c, ps[k]? = some p → cs[k]? = some c → w.ownsRow base 3 1 c.2 (wh p).length (ints (wh p))
 ap : ∀ (i j x : Nat) u v, (flat cs)[i]? = some u → (flat cs)[j]? = some v → blockOf u = some x → blockOf v = some x → i = j
 ag : ∀ (i : Nat) u, (flat cs)[i]? = some u → blockOf u ≠ some B.g ∧ blockOf u ≠ some B.b
 bg : B.b ≠ B.g
 bb : base ≤ B.b
end Go.Proofs.YthdfplafihmejaaGreat

namespace Go.Proofs.YthdfplafihmejaaGreat
open Go.RowKit Go.Maps

theorem ownBlock_blockOf {v : Value} {k : Nat} (h : v.ownBlock = some k) : blockOf v = some k := by
 unfold Value.ownBlock at h
 split at h
 ·exact h
 ·cases h
theorem mapBlock_blockOf {v : Value} {k : Nat} (h : mapBlock v = some k) : blockOf v = some k := by
 unfold mapBlock at h
 split at h
 ·exact h
 ·cases h
theorem cell_flat1 {cs : List (Value × Value)} {k : Nat} {c : Value × Value} (h : cs[k]? = some c) : (flat cs)[2 * k]? = some c.1 := (flat_get cs k c h).1
theorem cell_flat2 {cs : List (Value × Value)} {k : Nat} {c : Value × Value} (h : cs[k]? = some c) : (flat cs)[2 * k + 1]? = some c.2 := (flat_get cs k c h).2
section
variable {w w' : World} {base : Nat} {B : MB} {cs : List (Value × Value)} {ps : List (List Nat)} {wh : List Nat → List Nat} {S : Nat → Prop}
theorem MachAt.emKept (h : MachAt w base B cs ps wh) (hc : Chg S w w') {i0 : Nat} (hs : ∀ (i : Nat) u x, (flat cs)[i]? = some u → i ≠ i0 → blockOf u = some x → ¬ S x) :
  ∀ (k : Nat) p c, ps[k]? = some p → cs[k]? = some c → 2 * k ≠ i0 → EdgeMap w' base ps.length c.1 (edges ps p) := fun k p c hp hcc hk =>
 (h.em k p c hp hcc).chg hc (fun x hx => hs (2 * k) c.1 x (cell_flat1 hcc) hk (mapBlock_blockOf hx))
theorem MachAt.ewKept (h : MachAt w base B cs ps wh) (hc : Chg S w w') {i0 : Nat} (hs : ∀ (i : Nat) u x, (flat cs)[i]? = some u → i ≠ i0 → blockOf u = some x → ¬ S x) :
  ∀ (k : Nat) p c, ps[k]? = some p → cs[k]? = some c → 2 * k + 1 ≠ i0 → w'.ownsRow base 3 1 c.2 (wh p).length (ints (wh p)) := fun k p c hp hcc hk =>
 own_chg (h.ew k p c hp hcc) hc (fun x hx => hs (2 * k + 1) c.2 x (cell_flat2 hcc) hk (ownBlock_blockOf hx))
theorem MachAt.chg (h : MachAt w base B cs ps wh) (hc : Chg (fun _ => False) w w') : MachAt w' base B cs ps wh :=
 ⟨hc.obj (fun e => e) h.hb, own_chg h.hg hc (fun _ _ e => e), h.len, fun k p c hp hcc => (h.em k p c hp hcc).chg hc (fun _ _ e => e), fun k p c hp hcc => own_chg (h.ew k p c hp hcc) hc (fun _ _ e => e), h.ap, h.ag, h.bg, h.bb⟩
theorem MachAt.gRow (h : MachAt w base B cs ps wh) : ∃ rest : List Value, w.heap[B.g]? = some (.cells (flat cs ++ rest).toArray 273 (0, 0)) ∧ cs.length ≤ B.cap ∧ B.cap ≤ maxLen ∧ (flat cs ++ rest).length = B.cap * 2 := by
 obtain ⟨_, ⟨e, _⟩ | ⟨g, cap, cur, e, hg, hh, q1, q2, q3, q4⟩⟩ := h.hg
 ·cases e
 ·cases e
  refine ⟨cur.toList.drop (cs.length * 2), ?_, q1, q2, ?_⟩
  ·rw [hh, ← q4, List.take_append_drop, Array.toArray_toList]
  ·rw [← q4, List.take_append_drop, Array.length_toList, q3]
theorem MachAt.mcell (h : MachAt w base B cs ps wh) {k : Nat} {c : Value × Value} (hk : cs[k]? = some c) : w.cell? ⟨B.g, k * 2, none⟩ = some c.1 ∧ w.cell? ⟨B.g, k * 2 + 1, none⟩ = some c.2 := by
 obtain ⟨rest, hh, _⟩ := h.gRow
 have hl : k < cs.length := (List.getElem?_eq_some_iff.1 hk).1
 have hfl := flat_length cs
 refine ⟨cell_of hh ?_, cell_of hh ?_⟩
 ·rw [List.getElem?_toArray, List.getElem?_append_left (by omega), show k * 2 = 2 * k from by omega]; exact cell_flat1 hk
 ·rw [List.getElem?_toArray, List.getElem?_append_left (by omega), show k * 2 + 1 = 2 * k + 1 from by omega]; exact cell_flat2 hk
theorem MachAt.frz (h : MachAt w base B cs ps wh) (o : Nat) : w.frozen? ⟨B.g, o, none⟩ = false := by
 obtain ⟨rest, hh, _⟩ := h.gRow
 exact frozen_of hh
theorem MachAt.glt (h : MachAt w base B cs ps wh) : base ≤ B.g ∧ B.g < w.heap.size := h.hg.lt B.g rfl
theorem MachAt.blt (h : MachAt w base B cs ps wh) {i : Nat} {u : Value} {x : Nat} (hi : (flat cs)[i]? = some u) (hx : blockOf u = some x) : base ≤ x ∧ x < w.heap.size := by
 have hil : i < (flat cs).length := (List.getElem?_eq_some_iff.1 hi).1
 rw [flat_length] at hil
 have hk : i / 2 < cs.length := by omega
 obtain ⟨c, hc⟩ : ∃ c, cs[i / 2]? = some c := ⟨_, List.getElem?_eq_getElem hk⟩
 obtain ⟨p, hp⟩ : ∃ p, ps[i / 2]? = some p := ⟨_, List.getElem?_eq_getElem (by rw [← h.len]; exact hk)⟩
 rcases (by omega : i = 2 * (i / 2) ∨ i = 2 * (i / 2) + 1) with e | e
 ·rw [e, cell_flat1 hc] at hi
  cases hi
  rcases h.em _ p c hp hc with ⟨q, _⟩ | ⟨bm, n, D, q, hb, hown, _⟩
  ·rw [q] at hx; cases hx
  ·rw [q] at hx; cases hx; exact ⟨hb, hown.lt⟩
 ·rw [e, cell_flat2 hc] at hi
  cases hi
  have ho := h.ew _ p c hp hc
  obtain ⟨a, cp, q⟩ := own_shape ho
  have : c.2.ownBlock = some x := by
   rw [q] at hx ⊢
   cases a with
   | none => cases hx
   | some a => exact hx
  exact ho.lt x this
/-- The states' row with one cell written anew. -/
theorem MachAt.rowSet (h : MachAt w base B cs ps wh) {o : Nat} {v : Value} {cs' : List (Value × Value)} (hl : cs'.length = cs.length) (hf : (flat cs).set o v = flat cs') :
  (w.setCell ⟨B.g, o, none⟩ v).ownsRow base 273 2 (.slice (some ⟨B.g, 0, none⟩) cs'.length B.cap) cs'.length (flat cs') := by
 obtain ⟨_, ⟨e, _⟩ | ⟨g, cap, cur, e, hg, hh, q1, q2, q3, q4⟩⟩ := h.hg
 ·cases e
 ·cases e
  refine ⟨by rw [flat_length]; omega, .inr ⟨B.g, B.cap, cur.setIfInBounds o v, rfl, hg, obj_setCell hh _, by omega, q2, by simpa using q3, ?_⟩⟩
  rw [hl, Array.toList_setIfInBounds, List.take_set, q4, hf]
theorem flat_get_set {cs cs' : List (Value × Value)} {o : Nat} {v : Value} (hf : (flat cs).set o v = flat cs') {i : Nat} {u : Value} (hi : (flat cs')[i]? = some u) : (i = o ∧ u = v) ∨ (i ≠ o ∧ (flat cs)[i]? = some u) := by
 rw [← hf, List.getElem?_set] at hi
 split at hi
 ·rename_i e
  split at hi
  ·cases hi; exact .inl ⟨e.symm, rfl⟩
  ·cases hi
 ·rename_i e
  exact .inr ⟨fun q => e q.symm, hi⟩
/-- What is asked of blocks, behind one cell written anew: its new value's block is its old one's, or a new one, or there is none. -/
theorem ap_set (h : MachAt w base B cs ps wh) {cs' : List (Value × Value)} {o : Nat} {v old : Value} (hf : (flat cs).set o v = flat cs') (ho : (flat cs)[o]? = some old) (hv : blockOf v = blockOf old ∨ ∀ x, blockOf v = some x → w.heap.size ≤ x) :
  (∀ (i j x : Nat) u v, (flat cs')[i]? = some u → (flat cs')[j]? = some v → blockOf u = some x → blockOf v = some x → i = j) ∧ (∀ (i : Nat) u, (flat cs')[i]? = some u → blockOf u ≠ some B.g ∧ blockOf u ≠ some B.b) := by
 have hb := lt_of_obj h.hb
 have hg := h.glt
 have key : ∀ (j : Nat) u x, j ≠ o → (flat cs)[j]? = some u → blockOf u = some x → blockOf v ≠ some x := by
  intro j u x hj hu hx hvx
  rcases hv with e | e
  ·exact hj (h.ap j o x u old hu ho hx (e ▸ hvx))
  ·have := e x hvx; have := (h.blt hu hx).2; omega
 constructor
 ·intro i j x u v' hi hj hu hv'
  rcases flat_get_set hf hi with ⟨rfl, rfl⟩ | ⟨n1, hi⟩ <;> rcases flat_get_set hf hj with ⟨rfl, rfl⟩ | ⟨n2, hj⟩
  ·rfl
  ·exact absurd hu (key j v' x n2 hj hv')
  ·exact absurd hv' (key i u x n1 hi hu)
  ·exact h.ap i j x u v' hi hj hu hv'
 ·intro i u hi
  rcases flat_get_set hf hi with ⟨rfl, rfl⟩ | ⟨_, hi⟩
  ·constructor
   ·intro e
    rcases hv with q | q
    ·exact (h.ag i old ho).1 (q ▸ e)
    ·have := q _ e; omega
   ·intro e
    rcases hv with q | q
    ·exact (h.ag i old ho).2 (q ▸ e)
    ·have := q _ e; omega
  ·exact h.ag i u hi
theorem get_set_cs {cs : List (Value × Value)} {k i : Nat} {c x : Value × Value} (h : (cs.set k x)[i]? = some c) : (i = k ∧ c = x) ∨ (i ≠ k ∧ cs[i]? = some c) := by
 rw [List.getElem?_set] at h
 split at h
 ·rename_i e
  split at h
  ·cases h; exact .inl ⟨e.symm, rfl⟩
  ·cases h
 ·rename_i e
  exact .inr ⟨fun q => e q.symm, h⟩
/-- A state that had no map gets one. -/
theorem MachAt.newMap (h : MachAt w base B cs ps wh) {k : Nat} {p : List Nat} {v : Value} (hp : ps[k]? = some p) (hk : cs[k]? = some (.map none, v)) :
  MachAt ((w.alloc (.map #[] 0)).setCell ⟨B.g, k * 2, none⟩ (.map (some w.heap.size))) base B (cs.set k (.map (some w.heap.size), v)) ps wh := by
 have h1 := h.chg (chg_alloc (fun _ => False) w (.map #[] 0))
 have hf := flat_set1 cs k _ hk (.map (some w.heap.size))
 rw [show 2 * k = k * 2 from by omega] at hf
 have hc : Chg (· = B.g) (w.alloc (.map #[] 0)) ((w.alloc (.map #[] 0)).setCell ⟨B.g, k * 2, none⟩ (.map (some w.heap.size))) := chg_cell _ _ _ _
 have hoth : ∀ (i : Nat) u x, (flat cs)[i]? = some u → i ≠ 2 * cs.length → blockOf u = some x → ¬ x = B.g := fun i u x hu _ hx e => (h.ag i u hu).1 (e ▸ hx)
 have hlen : ∀ i, cs[i]? ≠ none → 2 * i ≠ 2 * cs.length ∧ 2 * i + 1 ≠ 2 * cs.length := fun i hi => by
  have : i < cs.length := by
   rcases Nat.lt_or_ge i cs.length with q | q
   ·exact q
   ·exact absurd (List.getElem?_eq_none q) hi
  omega
 have hapx := ap_set h hf (by rw [show k * 2 = 2 * k from by omega]; exact cell_flat1 hk) (.inr fun x hx => by cases hx; exact Nat.le_refl _)
 have hgl := h.glt
 have hkl : k < cs.length := (List.getElem?_eq_some_iff.1 hk).1
 refine ⟨hc.obj h.bg (by rw [List.length_set]; exact h1.hb), h1.rowSet (List.length_set ..) hf, by rw [List.length_set]; exact h.len, ?_, ?_, hapx.1, hapx.2, h.bg, h.bb⟩
 ·intro i q c hq hci
  rcases get_set_cs hci with ⟨rfl, rfl⟩ | ⟨hne, hci⟩
  ·obtain rfl : p = q := by rw [hp] at hq; exact Option.some.inj hq
   have e0 := h.em i p _ hp hk
   rcases e0 with ⟨_, hnone⟩ | ⟨bm, n, D, e, _⟩
   ·refine .inr ⟨w.heap.size, 0, .map [], rfl, by omega, ?_, by omega, fun a ha => ?_⟩
    ·exact World.ownsMap.setCell (World.ownsMap_made _ _ _ _) (by show w.heap.size ≠ B.g; omega) _
    ·rw [hnone a ha]
     exact ⟨rfl, fun j hj => by cases hj⟩
   ·cases e
  ·exact h1.emKept hc hoth i q c hq hci (hlen i (by rw [hci]; simp)).1
 ·intro i q c hq hci
  rcases get_set_cs hci with ⟨rfl, rfl⟩ | ⟨hne, hci⟩
  ·exact h1.ewKept hc hoth i q (.map none, v) hq hk (hlen i (by rw [hk]; simp)).2
  ·exact h1.ewKept hc hoth i q c hq hci (hlen i (by rw [hci]; simp)).2
/-- A word more ends in a state. -/
theorem MachAt.addWord (h : MachAt w base B cs ps wh) (hnd : ps.Nodup) {k which : Nat} {p : List Nat} {m v v' : Value} (hp : ps[k]? = some p) (hk : cs[k]? = some (m, v))
  (ho : w'.ownsRow base 3 1 v' ((wh p).length + 1) (ints (wh p) ++ [.int .i64 (which : Int)])) (hg : w.grownBy w' v.ownBlock) (hs : SameOrNew w v v') :
  MachAt (w'.setCell ⟨B.g, k * 2 + 1, none⟩ v') base B (cs.set k (m, v')) ps (fun q => if q = p then wh q ++ [which] else wh q) := by
 have hf := flat_set2 cs k _ hk v'
 rw [show 2 * k + 1 = k * 2 + 1 from by omega] at hf
 have hfl : (flat cs)[k * 2 + 1]? = some v := by rw [show k * 2 + 1 = 2 * k + 1 from by omega]; exact cell_flat2 hk
 obtain ⟨av, cv, ev⟩ := own_shape (h.ew k p _ hp hk)
 obtain ⟨av', cv', ev'⟩ := own_shape ho
 have bo : ∀ u : Value, (∃ a n c, u = .slice a n c) → blockOf u = u.ownBlock := by
  rintro u ⟨a, n, c, rfl⟩; cases a <;> rfl
 have bv : blockOf v = v.ownBlock := bo v ⟨_, _, _, ev⟩
 have bv' : blockOf v' = v'.ownBlock := bo v' ⟨_, _, _, ev'⟩
 have hvg : v.ownBlock ≠ some B.g := by rw [← bv]; exact (h.ag _ v hfl).1
 have hvb : v.ownBlock ≠ some B.b := by rw [← bv]; exact (h.ag _ v hfl).2
 have c1 : Chg (fun x => v.ownBlock = some x) w w' := Chg.of_grown hg
 have c2 : Chg (· = B.g) w' (w'.setCell ⟨B.g, k * 2 + 1, none⟩ v') := chg_cell _ _ _ _
 have cc : Chg (fun x => v.ownBlock = some x ∨ x = B.g) w (w'.setCell ⟨B.g, k * 2 + 1, none⟩ v') := (c1.mono (fun _ _ e => .inl e)).trans (c2.mono (fun _ _ e => .inr e))
 have hoth : ∀ (i : Nat) u x, (flat cs)[i]? = some u → i ≠ 2 * k + 1 → blockOf u = some x → ¬ (v.ownBlock = some x ∨ x = B.g) := fun i u x hu hne hx e => by
  rcases e with e | rfl
  ·rw [← bv] at e
   exact hne (by have := h.ap i (k * 2 + 1) x u v hu hfl hx e; omega)
  ·exact (h.ag i u hu).1 hx
 have hapx := ap_set h hf hfl (by
  rcases hs with e | e
  ·exact .inl (by rw [bv, bv', e])
  ·exact .inr fun x hx => e x (by rw [← bv']; exact hx))
 have hrow : MachAt w base B cs ps wh := h
 have hg' : w'.ownsRow base 273 2 (.slice (some ⟨B.g, 0, none⟩) cs.length B.cap) cs.length (flat cs) := own_chg h.hg c1 (fun x hx e => hvg (by rw [e]; exact hx.symm))
 have hrs : (w'.setCell ⟨B.g, k * 2 + 1, none⟩ v').ownsRow base 273 2 (.slice (some ⟨B.g, 0, none⟩) (cs.set k (m, v')).length B.cap) (cs.set k (m, v')).length (flat (cs.set k (m, v'))) := by
  obtain ⟨_, ⟨e, _⟩ | ⟨g, cap, cur, e, hgg, hh, q1, q2, q3, q4⟩⟩ := hg'
  ·cases e
  ·cases e
   refine ⟨by rw [flat_length]; omega, .inr ⟨B.g, B.cap, cur.setIfInBounds (k * 2 + 1) v', rfl, hgg, obj_setCell hh _, by rw [List.length_set]; omega, q2, by simpa using q3, ?_⟩⟩
   rw [List.length_set, Array.toList_setIfInBounds, List.take_set, q4, hf]
 refine ⟨cc.obj (fun e => by rcases e with e | e; exact hvb e; exact h.bg e) (by rw [List.length_set]; exact h.hb), hrs, by rw [List.length_set]; exact h.len, ?_, ?_, hapx.1, hapx.2, h.bg, h.bb⟩
 ·intro i q c hq hci
  rcases get_set_cs hci with ⟨rfl, rfl⟩ | ⟨hne, hci⟩
  ·exact h.emKept cc hoth i q (m, v) hq hk (by omega)
  ·exact h.emKept cc hoth i q c hq hci (by omega)
 ·intro i q c hq hci
  rcases get_set_cs hci with ⟨rfl, rfl⟩ | ⟨hne, hci⟩
  ·obtain rfl : p = q := by rw [hp] at hq; exact Option.some.inj hq
   rw [if_pos rfl]
   have e : ints (wh p ++ [which]) = ints (wh p) ++ [.int .i64 (which : Int)] := by unfold ints; rw [List.map_append]; rfl
   rw [e, List.length_append]
   refine own_chg ho c2 (fun x hx e => ?_)
   subst e
   rcases hs with q | q
   ·exact hvg (q ▸ hx)
   ·have := q _ hx; have := h.glt.2; omega
  ·have hqp : q ≠ p := fun e => hne (by
    subst e
    exact (List.getElem?_inj (List.getElem?_eq_some_iff.1 hq).1 hnd).1 (hq.trans hp.symm))
   rw [if_neg hqp]
   exact h.ewKept cc hoth i q c hq hci (by omega)
end
end Go.Proofs.YthdfplafihmejaaGreat

namespace Go.Proofs.YthdfplafihmejaaGreat
open Go.RowKit Go.Maps

theorem snoc_inj {p q : List Nat} {a b : Nat} (h : p ++ [a] = q ++ [b]) : p = q ∧ a = b := by
 have := List.append_inj' h rfl
 exact ⟨this.1, by simpa using this.2⟩
theorem edges_old {ps : List (List Nat)} {q p : List Nat} {a : Nat} (h : p ++ [a] ≠ q) : edges (ps ++ [q]) p a = edges ps p a := by
 unfold edges
 by_cases hm : p ++ [a] ∈ ps
 ·rw [if_pos hm, if_pos (List.mem_append_left _ hm), List.idxOf_append, if_pos hm]
 ·rw [if_neg hm, if_neg]
  rw [List.mem_append, List.mem_singleton]
  rintro (e | e)
  ·exact hm e
  ·exact h e
theorem edges_new {ps : List (List Nat)} {p : List Nat} {a : Nat} (h : p ++ [a] ∉ ps) : edges (ps ++ [p ++ [a]]) p a = some ps.length := by
 unfold edges
 rw [if_pos (by simp), List.idxOf_append, if_neg h]; simp
theorem flat_snoc_get {cs : List (Value × Value)} {i : Nat} {u : Value} (h : (flat (cs ++ [(.map none, .slice none 0 0)]))[i]? = some u) : (flat cs)[i]? = some u ∨ blockOf u = none := by
 rw [flat_append] at h
 rcases Nat.lt_or_ge i (flat cs).length with q | q
 ·rw [List.getElem?_append_left q] at h; exact .inl h
 ·rw [List.getElem?_append_right q] at h
  right
  have := List.mem_of_getElem? h
  simp [flat] at this
  rcases this with rfl | rfl <;> rfl
theorem get_snoc {α : Type} {l : List α} {x c : α} {i : Nat} (h : (l ++ [x])[i]? = some c) : (i < l.length ∧ l[i]? = some c) ∨ (i = l.length ∧ c = x) := by
 rcases Nat.lt_or_ge i l.length with q | q
 ·rw [List.getElem?_append_left q] at h; exact .inl ⟨q, h⟩
 ·rw [List.getElem?_append_right q] at h
  rcases Nat.eq_zero_or_pos (i - l.length) with e | e
  ·rw [e] at h; simp at h; exact .inr ⟨by omega, h.symm⟩
  ·rw [List.getElem?_eq_none (by simp; omega)] at h; cases h
/-- What a map says, as the walk has it. -/
def Says (D : DataW Unit) (f : Nat → Option Nat) : Prop := ∀ a, a < 65536 → Maps.has D (akey a) = (f a).isSome ∧ ∀ j, f a = some j → D.atKey (akey a) (.lit (.int .i64 0)) = .lit (.int .i64 (j : Int))
theorem says_put {w : World} {bm n : Nat} {D : DataW Unit} (hm : AMap w bm n D) {ps : List (List Nat)} {p : List Nat} {a : Nat} (h : Says D (edges ps p)) (hn : p ++ [a] ∉ ps) :
  Says (D.put (akey a) (.lit (.int .i64 ((ps.length : Nat) : Int)))) (edges (ps ++ [p ++ [a]]) p) := by
 intro b hb
 by_cases e : b = a
 ·subst e
  rw [edges_new hn, Maps.has_put_same hm.isMap (show WideAt.IsKeyLit (akey b) from trivial)]
  refine ⟨rfl, fun j hj => ?_⟩
  cases hj
  exact Maps.atKey_put_same hm.isMap (show WideAt.IsKeyLit (akey b) from trivial) _ _
 ·have hk : akey b ≠ akey a := fun q => e (akey_inj q)
  rw [edges_old (fun q => e (snoc_inj q).2), Maps.has_put_other hk]
  refine ⟨(h b hb).1, fun j hj => ?_⟩
  rw [Maps.atKey_put_other hk]; exact (h b hb).2 j hj
theorem MachAt.addEdge {w w1 w3 : World} {base : Nat} {B : MB} {cs : List (Value × Value)} {ps : List (List Nat)} {wh : List Nat → List Nat} (h : MachAt w base B cs ps wh) (ht : Tree ps) {k a bm n : Nat} {p : List Nat} {D : DataW Unit} {v v' : Value} {X : Obj}
  (hp : ps[k]? = some p) (hk : cs[k]? = some (.map (some bm), v)) (hn : p ++ [a] ∉ ps) (hwh : wh (p ++ [a]) = []) (hm : AMap w bm n D) (hnl : n ≤ ps.length) (hsy : Says D (edges ps p))
  (hm1 : AMap w1 bm (n + 1) (D.put (akey a) (.lit (.int .i64 ((ps.length : Nat) : Int))))) (g1 : w.grownBy w1 (some bm))
  (o3 : w3.ownsRow base 273 2 v' (cs.length + 1) (flat cs ++ [.map none, .slice none 0 0])) (g3 : (w1.alloc X).grownBy w3 (some B.g)) (s3 : SameOrNew (w1.alloc X) (.slice (some ⟨B.g, 0, none⟩) cs.length B.cap) v') :
  ∃ g' cap', v' = .slice (some ⟨g', 0, none⟩) (cs.length + 1) cap' ∧ MachAt (w3.setCell ⟨B.b, 0, none⟩ v') base ⟨B.b, g', cap', B.nw⟩ (cs ++ [(.map none, .slice none 0 0)]) (ps ++ [p ++ [a]]) wh := by
 have o3' := o3
 obtain ⟨_, ⟨_, e⟩ | ⟨g', cap', cur, rfl, hbg, hh, q1, q2, q3, q4⟩⟩ := o3
 ·omega
 refine ⟨g', cap', rfl, ?_⟩
 have hfk : (flat cs)[2 * k]? = some (.map (some bm)) := cell_flat1 hk
 have hbm := h.blt hfk rfl
 have hbmg : bm ≠ B.g := fun e => (h.ag _ _ hfk).1 (by rw [← e]; rfl)
 have hbmb : bm ≠ B.b := fun e => (h.ag _ _ hfk).2 (by rw [← e]; rfl)
 have hbl := lt_of_obj h.hb
 have hgl := h.glt
 have z1 := g1.size
 have z2 : (w1.alloc X).heap.size = w1.heap.size + 1 := by simp
 have hg' : g' = B.g ∨ w1.heap.size + 1 ≤ g' := by
  rcases s3 with e | e
  ·simp [Value.ownBlock] at e; exact .inl e
  ·have := e g' rfl; exact .inr (by omega)
 have c1 : Chg (fun x => x = bm ∨ x = B.g ∨ x = B.b) w w1 := (Chg.of_grown g1).mono (fun x _ e => .inl (Option.some.inj e).symm)
 have c3 : Chg (fun x => x = B.g ∨ x = B.b) w1 (w3.setCell ⟨B.b, 0, none⟩ (.slice (some ⟨g', 0, none⟩) (cs.length + 1) cap')) :=
  ((chg_alloc _ w1 X).trans ((Chg.of_grown g3).mono (fun x _ e => .inl (Option.some.inj e).symm))).trans ((chg_cell w3 B.b 0 _).mono (fun x _ e => .inr e))
 have cc := c1.trans (c3.mono (T := fun x => x = bm ∨ x = B.g ∨ x = B.b) (fun x _ e => .inr e))
 have hoth : ∀ (i : Nat) u x, (flat cs)[i]? = some u → i ≠ 2 * k → blockOf u = some x → ¬ (x = bm ∨ x = B.g ∨ x = B.b) := fun i u x hu hne hx e => by
  rcases e with rfl | rfl | rfl
  ·exact hne (h.ap i (2 * k) x u _ hu hfk hx rfl)
  ·exact (h.ag i u hu).1 hx
  ·exact (h.ag i u hu).2 hx
 have hb3 : w3.heap[B.b]? = some (.cells #[.slice (some ⟨B.g, 0, none⟩) cs.length B.cap, .int .i64 B.nw] 262 (0, 0)) := by
  have e1 := (Chg.of_grown g1).obj (fun e => hbmb (Option.some.inj e)) h.hb
  exact (Chg.of_grown g3).obj (fun e => h.bg (Option.some.inj e).symm) (obj_alloc X e1)
 have bg' : B.b ≠ g' := by rcases hg' with e | e; rw [e]; exact h.bg; omega
 have hfl : flat (cs ++ [(.map none, .slice none 0 0)]) = flat cs ++ [.map none, .slice none 0 0] := by rw [flat_append]; rfl
 have hlc : (cs ++ [((.map none : Value), (.slice none 0 0 : Value))]).length = cs.length + 1 := by simp
 refine ⟨?_, ?_, by simp [h.len], ?_, ?_, ?_, ?_, bg', h.bb⟩
 ·rw [hlc]; exact (obj_setCell hb3 _).trans rfl
 ·rw [hlc, hfl]
  exact own_chg o3' (chg_cell w3 B.b 0 _) (fun x hx e => bg' (by simp [Value.ownBlock] at hx; omega))
 ·intro i q c hq hci
  rcases get_snoc hq with ⟨hil, hq0⟩ | ⟨hil, rfl⟩
  ·have hci := ((get_snoc hci).resolve_right (fun e => by have := h.len; have := e.1; omega)).2
   clear hq
   have hq := hq0
   by_cases hik : i = k
   ·subst hik
    obtain rfl : p = q := by rw [hp] at hq; exact Option.some.inj hq
    rw [hk] at hci
    cases hci
    refine EdgeMap.chg (w := w1) (.inr ⟨bm, n + 1, _, rfl, hbm.1, hm1, by simp; omega, says_put hm hsy hn⟩) c3 (fun x hx e => ?_)
    cases hx
    rcases e with e | e
    ·exact hbmg e
    ·exact hbmb e
   ·have hqp : q ≠ p := fun e => hik (by
     subst e
     exact (List.getElem?_inj hil ht.nodup).1 (hq.trans hp.symm))
    have := h.emKept cc hoth i q c hq hci (by omega)
    have ef : edges (ps ++ [p ++ [a]]) q = edges ps q := funext fun b => edges_old (fun e => hqp (snoc_inj e).1)
    rw [ef]; exact this.mono (by simp)
  ·rcases get_snoc hci with ⟨hjl, _⟩ | ⟨_, rfl⟩
   ·have := h.len; omega
   refine .inl ⟨rfl, fun b _ => ?_⟩
   unfold edges
   rw [if_neg]
   rw [List.mem_append, List.mem_singleton]
   rintro (e | e)
   ·exact hn (ht.down _ _ e)
   ·have := congrArg List.length e; simp at this
 ·intro i q c hq hci
  rcases get_snoc hq with ⟨hil, hq⟩ | ⟨hil, rfl⟩
  ·have hci := ((get_snoc hci).resolve_right (fun e => by have := h.len; have := e.1; omega)).2
   exact h.ewKept cc hoth i q c hq hci (by omega)
  ·rcases get_snoc hci with ⟨hjl, _⟩ | ⟨_, rfl⟩
   ·have := h.len; omega
   rw [hwh]
   exact World.ownsRow_nil _ _ _ _
 ·intro i j x u v hi hj hu hv
  rcases flat_snoc_get hi with hi | e
  ·rcases flat_snoc_get hj with hj | e
   ·exact h.ap i j x u v hi hj hu hv
   ·rw [e] at hv; cases hv
  ·rw [e] at hu; cases hu
 ·intro i u hi
  rcases flat_snoc_get hi with hi | e
  ·refine ⟨fun e => ?_, (h.ag i u hi).2⟩
   rcases hg' with q | q
   ·exact (h.ag i u hi).1 (by rw [← q]; exact e)
   ·have := (h.blt hi e).2
    have e : g' < w.heap.size := this
    omega
  ·rw [e]; exact ⟨(fun q => by cases q), (fun q => by cases q)⟩
end Go.Proofs.YthdfplafihmejaaGreat

namespace Go.Proofs.YthdfplafihmejaaGreat
open Go.RowKit Go.Maps

theorem Tryz.elemState : ElemInfo Tryz.prog 273 2 32 := elemInfo_of (z := .agg #[.map none, .slice none 0 0]) (by kernel_rfl) rfl (by decide)
theorem Tryz.elemInt : ElemInfo Tryz.prog 3 1 8 := elemInfo_of (z := .int .i64 0) (by kernel_rfl) rfl (by decide)
theorem Tryz.sizeInts : (Tryz.prog.info? 36).map (·.size) = some 1 := by kernel_rfl
theorem getIdx {ps : List (List Nat)} {q : List Nat} (h : q ∈ ps) : ps[ps.idxOf q]? = some q := by
 have hl : ps.idxOf q < ps.length := List.idxOf_lt_length_of_mem h
 rw [List.getElem?_eq_getElem hl, List.getElem_idxOf hl]
theorem putTo_mem_take {ps : List (List Nat)} (ht : Tree ps) (p : List Nat) : ∀ k, p.take k ∈ putTo ps p k
 | 0 => by simpa [putTo] using ht.mem_nil
 | k + 1 => (putTo_mem ps p (k + 1) _).2 (.inr ⟨k + 1, by omega, Nat.le_refl _, rfl⟩)
theorem putTo_length (ps : List (List Nat)) (p : List Nat) : ∀ k, (putTo ps p k).length ≤ ps.length + k
 | 0 => by simp [putTo]
 | k + 1 => by
  have := putTo_length ps p k
  rw [putTo]
  split
  ·omega
  ·simp; omega

set_option maxHeartbeats 4000000 in
set_option maxRecDepth 100000 in
theorem put_any (w : World) (base : Nat) (B : MB) (cs : List (Value × Value)) (ps : List (List Nat)) (wh : List Nat → List Nat) (which : Nat) (s : ByteArray) (h : MachAt w base B cs ps wh) (ht : Tree ps) (hs : s.size ≤ 400)
  (hps : ps.length ≤ 900000) (hfr : ∀ q, q ∉ ps → wh q = []) (hwl : (wh (atoms s.data.toList)).length ≤ 1000000) :
  Calls Tryz.prog 181 #[.pointer (some ⟨B.b, 0, none⟩), .int .i64 (which : Int), .string s] w fun e w' => e = .returned (.tuple #[]) ∧
   ∃ B' cs', B'.b = B.b ∧ B'.nw = B.nw ∧ MachAt w' base B' cs' (putP ps (atoms s.data.toList)) (fun q => if q = atoms s.data.toList then wh q ++ [which] else wh q) ∧ Chg (fun x => base ≤ x) w w' := by
 have hsl := size_list s
 have LEN := Lib.hid (wlen_any w s (by unfold maxLen; omega))
 have AT := Lib.hid (fun w k hk => wat_in w s k (by unfold maxLen; omega) hk)
 have hn2 : alen s.data.toList ≤ 200 := by unfold alen; omega
 have PL := Lib.hid (atoms_length s.data.toList)
 have TK := Lib.hid (fun k hk => atoms_take_succ s.data.toList (i := k) hk)
 have ALT := Lib.hid (fun k => atomAt_lt s.data.toList k)
 have HFR := Lib.hid hfr
 have HT := Lib.hid ht
 have H := Lib.hid h
 clear hs hsl hfr ht h
 unfold putP
 rw [PL.out]
 generalize hp : atoms s.data.toList = p at *
 generalize hn : alen s.data.toList = n at *
 clear hp hn
 have hnil := fun (w : World) (r : Option Nat) => run_eql_map_nil (P := Tryz.prog) w 271 62 3 r Tryz.underlying271
 have hmm := fun (w : World) => run_makeMap (P := Tryz.prog) 271 w
 go_enter Tryz.func181, Tryz.ntmps181
 go_wp2_with fail
 refine (LEN.out).mono ?_
 rintro e w' ⟨rfl, rfl⟩
 go_wp2
 go_loopw [6, 13] (fun av iv wr => ∃ k : Nat, k ≤ n ∧ iv = .int .i64 k ∧ av = .int .i64 (((putTo ps p k).idxOf (p.take k) : Nat) : Int) ∧ ∃ B2 cs2, B2.b = B.b ∧ B2.nw = B.nw ∧ MachAt wr base B2 cs2 (putTo ps p k) wh ∧ Chg (fun x => base ≤ x) w wr) (fun _ iv _ => n - (intOf iv).toNat)
 case atStart =>
  refine ⟨0, by omega, rfl, ?_, B, cs, rfl, rfl, H.out, Chg.refl _ _⟩
  have e0 : (putTo ps p 0).idxOf (p.take 0) = 0 := by
   rw [putTo, List.take_zero]
   cases ps with
   | nil => rfl
   | cons a r => have := HT.out.root; simp at this; subst this; simp
  rw [e0]; rfl
 case round =>
  obtain ⟨k, hk, rfl, rfl, B2, cs2, bb, bw, hm, hc⟩ := hrel
  have HM := Lib.hid hm
  have HC := Lib.hid hc
  have BB := Lib.hid bb
  have BW := Lib.hid bw
  clear hm hc bb bw
  by_cases hlt : k < n
  ·have PM := Lib.hid (putTo_mem_take HT.out p k)
   have TP := Lib.hid (HT.out.putTo p k (by rw [PL.out]; omega))
   have hpl := putTo_length ps p k
   have PSU := Lib.hid (show putTo ps p (k + 1) = if p.take (k + 1) ∈ putTo ps p k then putTo ps p k else putTo ps p k ++ [p.take (k + 1)] from rfl)
   have FRK := Lib.hid (show ∀ q, q ∉ putTo ps p k → wh q = [] from fun q hq => HFR.out q (fun e => hq ((putTo_mem ps p k q).2 (.inl e))))
   have TK1 := Lib.hid (TK.out k hlt)
   have hak := ALT.out k
   generalize hak' : atomAt s.data.toList k = ak at *
   generalize putTo ps p k = P at *
   generalize p.take k = q at *
   have HP := Lib.hid (getIdx PM.out)
   obtain ⟨ix, hix⟩ : ∃ ix, P.idxOf q = ix := ⟨_, rfl⟩
   rw [hix] at HP ⊢
   have hixl : ix < P.length := by rw [← hix]; exact List.idxOf_lt_length_of_mem PM.out
   clear hix
   obtain ⟨c, hcc⟩ : ∃ c, cs2[ix]? = some c := ⟨_, List.getElem?_eq_getElem (by rw [HM.out.len]; exact hixl)⟩
   obtain ⟨mv, vv⟩ := c
   have HCC := Lib.hid hcc
   have LEN2 := Lib.hid HM.out.len
   have hcl : ix < cs2.length := by rw [HM.out.len]; exact hixl
   clear hcc
   go_wp2_with fail
   refine (AT.out wr k hlt).mono ?_
   rintro e w1 ⟨rfl, c1⟩
   rw [hak']
   have M1 := Lib.hid (HM.out.chg c1)
   have C1 := Lib.hid (HC.out.trans (c1.mono (fun _ _ e => e.elim)))
   clear c1 HM HC hak'
   have cb : w1.cell? ⟨B2.b, 0, none⟩ = some (.slice (some ⟨B2.g, 0, none⟩) cs2.length B2.cap) := cell_of M1.out.hb rfl
   have cm : w1.cell? ⟨B2.g, ix * 2, none⟩ = some mv := (M1.out.mcell HCC.out).1
   have fm := M1.out.frz (ix * 2)
   rw [BB.out] at cb
   have EM := Lib.hid (M1.out.em ix q _ HP.out HCC.out)
   by_cases hin : q ++ [ak] ∈ P
   ·have he : edges P q ak = some (P.idxOf (q ++ [ak])) := by unfold edges; rw [if_pos hin]
    have PS1 := Lib.hid (show putTo ps p (k + 1) = P by rw [PSU.out, TK1.out, if_pos hin])
    have HE := Lib.hid he
    have hes : (edges P q ak).isSome = true := by rw [he]; rfl
    clear he
    go_wp2_with (at_lookup; refine wpList_edge rfl (.tmp 27) (.tmp 28) rfl base P.length mv (edges P q) rfl EM.out ak hak rfl ?_; intro c hc)
    have hc' := hc _ HE.out
    subst hc'
    clear hc
    go_roundw
    case rel => exact ⟨k + 1, by omega, by go_num, by rw [PS1.out, TK1.out], B2, cs2, BB.out, BW.out, by rw [PS1.out]; exact M1.out, C1.out⟩
    case measure => simp [intOf]; omega
   ·have he : edges P q ak = none := by unfold edges; rw [if_neg hin]
    have PS1 := Lib.hid (show putTo ps p (k + 1) = P ++ [q ++ [ak]] by rw [PSU.out, TK1.out, if_neg hin])
    have HWH := Lib.hid (FRK.out _ hin)
    have HN := Lib.hid hin
    have hes : (edges P q ak).isSome = false := by rw [he]; rfl
    have em := EM.out
    clear he hin
    rcases em with ⟨rfl, hnone⟩ | ⟨bm, nn, D, rfl, hbm, ham, hnn, hsy⟩
    ·have m2 := M1.out.newMap HP.out HCC.out
     have k2 : Chg (fun x => base ≤ x) w ((w1.alloc (.map #[] 0)).setCell ⟨B2.g, ix * 2, none⟩ (.map (some w1.heap.size))) := (C1.out.alloc _).trans ((chg_cell _ _ _ _).mono (fun x _ e => by have := M1.out.glt.1; omega))
     have am2 : AMap ((w1.alloc (.map #[] 0)).setCell ⟨B2.g, ix * 2, none⟩ (.map (some w1.heap.size))) w1.heap.size 0 (.map []) := World.ownsMap.setCell (World.ownsMap_made _ _ _ _) (by show w1.heap.size ≠ B2.g; have := M1.out.glt.2; omega) _
     have HNN := Lib.hid (show 0 ≤ P.length by omega)
     have SY := Lib.hid (show Says (.map []) (edges P q) from fun a ha => by rw [hnone a ha]; exact ⟨rfl, fun j hj => by cases hj⟩)
     have HK2 := Lib.hid (show (cs2.set ix (.map (some w1.heap.size), vv))[ix]? = some (.map (some w1.heap.size), vv) by rw [List.getElem?_set_self (by omega)])
     have sw := World.setCell_alloc_past (w := w1) (.map #[] 0) B2.g (ix * 2) (.map (some w1.heap.size)) M1.out.glt.2
     rw [sw] at m2 k2 am2
     have HL2 := Lib.hid (show (cs2.set ix (.map (some w1.heap.size), vv)).length = cs2.length from List.length_set ..)
     have MH := Lib.hid m2
     have CH := Lib.hid k2
     have AM := Lib.hid am2
     have hgb : B2.g ≠ B.b := fun e => M1.out.bg (by rw [BB.out, e])
     clear m2 k2 am2 hnone sw
     have hgb2 : B.b ≠ B2.g := fun e => hgb e.symm
     have gl : B2.g < w1.heap.size := M1.out.glt.2
     have bl : B.b < w1.heap.size := by have := lt_of_obj M1.out.hb; rw [BB.out] at this; exact this
     have ca : (w1.alloc (.map #[] 0)).cell? ⟨B2.g, ix * 2, none⟩ = some (.map none) := cell_chg (chg_alloc (fun _ => False) w1 _) (fun e => e) cm
     have fa : (w1.alloc (.map #[] 0)).frozen? ⟨B2.g, ix * 2, none⟩ = false := (M1.out.chg (chg_alloc (fun _ => False) w1 (.map #[] 0))).frz _
     go_wp2_with (first | (at_lookup; refine wpList_edge rfl (.tmp 27) (.tmp 28) rfl base P.length (.map none) (edges P q) rfl EM.out ak hak rfl ?_; intro c hc; clear hc) | (at_mapUpdate; refine wpList_mapUpdate_own _ rfl (.tmp 63) (.tmp 64) (.tmp 65) 271 rfl 62 3 Tryz.atomKeyed Tryz.underlying271 (plainElem Tryz.prog 3) w1.heap.size 0 (.map []) rfl AM.out ?e1 _ _ (akey ak) rfl rfl (akey_of ak hak) (.lit (.int .i64 ((P.length : Nat) : Int))) [] ?e2 ?nexta))
     case e1 => unfold maxLen; omega
     case e2 => rw [← LEN2.out]; exact plainElem_int Tryz.underlying3 (WalkArith.wf_i64 (by have := LEN2.out; omega))
     case nexta =>
      intro w3 am3 g3
      clear cb cm fm EM hgb hgb2
      have HL3 := Lib.hid HL2.out.symm
      generalize (w1.setCell ⟨B2.g, ix * 2, none⟩ (.map (some w1.heap.size))).alloc (.map #[] 0) = W2 at *
      generalize hcsn : cs2.set ix (.map (some w1.heap.size), vv) = csn at *
      generalize w1.heap.size = bm at *
      have AM3 := Lib.hid am3
      have G3 := Lib.hid g3
      have hbm2 := (MH.out.blt (cell_flat1 HK2.out) rfl)
      have hbmb : bm ≠ B2.b := fun e => (MH.out.ag _ _ (cell_flat1 HK2.out)).2 (by rw [← e]; rfl)
      have hbmg : bm ≠ B2.g := fun e => (MH.out.ag _ _ (cell_flat1 HK2.out)).1 (by rw [← e]; rfl)
      have cg3 : Chg (· = bm) W2 w3 := (Chg.of_grown g3).mono (fun x _ e => (Option.some.inj e).symm)
      have hb3 := cg3.obj (fun e => hbmb e.symm) MH.out.hb
      have hg3 := own_chg MH.out.hg cg3 (fun x hx e => hbmg (by simp [Value.ownBlock] at hx; omega))
      have HG3 := Lib.hid hg3
      have HB3 := Lib.hid hb3
      have C3 := Lib.hid (CH.out.trans (cg3.mono (T := fun x => base ≤ x) (fun x _ e => by have := hbm2.1; omega)))
      have hsz3 := C3.out.size
      have cb3 : w3.cell? ⟨B2.b, 0, none⟩ = some (.slice (some ⟨B2.g, 0, none⟩) csn.length B2.cap) := cell_of hb3 rfl
      rw [BB.out] at cb3
      clear am3 g3 cg3 hb3 hg3 
      go_wp2_with (at_builtin; refine wpList_pushF rfl (.tmp 70) (.tmp 72) 260 rfl 273 2 32 Tryz.underlying260 Tryz.elemState base _ _ _ rfl (HG3.out.alloc _) _ [.map none, .slice none 0 0] 273 (0, 0) rfl (obj_alloc_new _ _) rfl ?f1 ?f2 ?f3 ?f4 ?nextb)
      case f1 => intro u hu; simp at hu; rcases hu with rfl | rfl <;> rfl
      case f2 => have := MH.out.len; omega
      case f3 => unfold maxLen; have := MH.out.len; omega
      case f4 => have h1 := MH.out.bb; have h2 := lt_of_obj HB3.out; simp; omega
      case nextb =>
       intro v5 w5 o5 g5 s5
       obtain ⟨g', cap', rfl, m6⟩ := MH.out.addEdge TP.out HP.out HK2.out HN.out HWH.out AM.out HNN.out SY.out AM3.out G3.out o5 g5 s5
       have hb5 := (Chg.of_grown g5).obj (fun e => MH.out.bg (Option.some.inj e).symm) (obj_alloc (.cells #[.map none, .slice none 0 0] 273) HB3.out)
       have c5 : w5.cell? ⟨B2.b, 0, none⟩ = some (.slice (some ⟨B2.g, 0, none⟩) csn.length B2.cap) := cell_of hb5 rfl
       have f5 : w5.frozen? ⟨B2.b, 0, none⟩ = false := frozen_of hb5
       have k5 : Chg (fun x => base ≤ x) w w5 := C3.out.trans (((chg_alloc _ w3 (.cells #[.map none, .slice none 0 0] 273)).trans ((Chg.of_grown g5).mono (T := fun x => base ≤ x) (fun x _ e => by have h1 := MH.out.glt.1; have h2 : B2.g = x := Option.some.inj e; show base ≤ x; omega))))
       have K6 := Lib.hid (k5.trans ((chg_cell w5 B2.b 0 (.slice (some ⟨g', 0, none⟩) (csn.length + 1) cap')).mono (T := fun x => base ≤ x) (fun x _ e => by have := MH.out.bb; omega)))
       have M6 := Lib.hid m6
       rw [BB.out] at c5 f5 K6
       rw [BB.out] at M6
       have LN := Lib.hid MH.out.len
       have BNW := Lib.hid BW.out
       clear o5 g5 s5 m6 hb5 k5
       go_wp2
       go_roundw
       case rel =>
        refine ⟨k + 1, by omega, by go_num, ?_, ⟨B.b, g', cap', B2.nw⟩, csn ++ [((.map none : Value), (.slice none 0 0 : Value))], rfl, BNW.out, ?_, K6.out⟩
        ·rw [PS1.out, TK1.out]
         have := edges_new HN.out
         unfold edges at this
         rw [if_pos (by simp)] at this
         rw [Option.some.inj this]
         rw [← LEN2.out]
        ·rw [PS1.out]; exact M6.out
       case measure => simp [intOf]; omega
    ·have SY := Lib.hid (show Says D (edges P q) from hsy)
     have HNN := Lib.hid hnn
     have AM := Lib.hid ham
     have MH := M1
     have CH := C1
     have HK2 := HCC
     clear hsy ham C1 HCC hbm
     go_wp2_with (first | (at_lookup; refine wpList_edge rfl (.tmp 27) (.tmp 28) rfl base P.length (.map (some bm)) (edges P q) rfl EM.out ak hak rfl ?_; intro c hc; clear hc) | (at_mapUpdate; refine wpList_mapUpdate_own _ rfl (.tmp 63) (.tmp 64) (.tmp 65) 271 rfl 62 3 Tryz.atomKeyed Tryz.underlying271 (plainElem Tryz.prog 3) bm nn D rfl AM.out ?c1 _ _ (akey ak) rfl rfl (akey_of ak hak) (.lit (.int .i64 ((P.length : Nat) : Int))) [] ?c2 ?next))
     case c1 => unfold maxLen; omega
     case c2 => rw [← LEN2.out]; exact plainElem_int Tryz.underlying3 (WalkArith.wf_i64 (by have := LEN2.out; omega))
     case next =>
      intro w3 am3 g3
      have AM3 := Lib.hid am3
      have G3 := Lib.hid g3
      have hbm2 := (MH.out.blt (cell_flat1 HK2.out) rfl)
      have hbmb : bm ≠ B2.b := fun e => (MH.out.ag _ _ (cell_flat1 HK2.out)).2 (by rw [← e]; rfl)
      have hbmg : bm ≠ B2.g := fun e => (MH.out.ag _ _ (cell_flat1 HK2.out)).1 (by rw [← e]; rfl)
      have cg3 : Chg (· = bm) w1 w3 := (Chg.of_grown g3).mono (fun x _ e => (Option.some.inj e).symm)
      have hb3 := cg3.obj (fun e => hbmb e.symm) MH.out.hb
      have hg3 := own_chg MH.out.hg cg3 (fun x hx e => hbmg (by simp [Value.ownBlock] at hx; omega))
      have HG3 := Lib.hid hg3
      have HB3 := Lib.hid hb3
      have C3 := Lib.hid (CH.out.trans (cg3.mono (T := fun x => base ≤ x) (fun x _ e => by have := hbm2.1; omega)))
      have hsz3 := C3.out.size
      have cb3 : w3.cell? ⟨B2.b, 0, none⟩ = some (.slice (some ⟨B2.g, 0, none⟩) cs2.length B2.cap) := cell_of hb3 rfl
      rw [BB.out] at cb3
      clear am3 g3 cg3 hb3 hg3 
      go_wp2_with (at_builtin; refine wpList_pushF rfl (.tmp 70) (.tmp 72) 260 rfl 273 2 32 Tryz.underlying260 Tryz.elemState base _ _ _ rfl (HG3.out.alloc _) _ [.map none, .slice none 0 0] 273 (0, 0) rfl (obj_alloc_new _ _) rfl ?d1 ?d2 ?d3 ?d4 ?next2)
      case d1 => intro u hu; simp at hu; rcases hu with rfl | rfl <;> rfl
      case d2 => have := MH.out.len; omega
      case d3 => unfold maxLen; have := MH.out.len; omega
      case d4 => have h1 := MH.out.bb; have h2 := lt_of_obj HB3.out; simp; omega
      case next2 =>
       intro v5 w5 o5 g5 s5
       obtain ⟨g', cap', rfl, m6⟩ := MH.out.addEdge TP.out HP.out HK2.out HN.out HWH.out AM.out HNN.out SY.out AM3.out G3.out o5 g5 s5
       have hb5 := (Chg.of_grown g5).obj (fun e => MH.out.bg (Option.some.inj e).symm) (obj_alloc (.cells #[.map none, .slice none 0 0] 273) HB3.out)
       have c5 : w5.cell? ⟨B2.b, 0, none⟩ = some (.slice (some ⟨B2.g, 0, none⟩) cs2.length B2.cap) := cell_of hb5 rfl
       have f5 : w5.frozen? ⟨B2.b, 0, none⟩ = false := frozen_of hb5
       have k5 : Chg (fun x => base ≤ x) w w5 := C3.out.trans (((chg_alloc _ w3 (.cells #[.map none, .slice none 0 0] 273)).trans ((Chg.of_grown g5).mono (T := fun x => base ≤ x) (fun x _ e => by have h1 := MH.out.glt.1; have h2 : B2.g = x := Option.some.inj e; show base ≤ x; omega))))
       have K6 := Lib.hid (k5.trans ((chg_cell w5 B2.b 0 (.slice (some ⟨g', 0, none⟩) (cs2.length + 1) cap')).mono (T := fun x => base ≤ x) (fun x _ e => by have := MH.out.bb; omega)))
       have M6 := Lib.hid m6
       rw [BB.out] at c5 f5 K6
       rw [BB.out] at M6
       have LN := Lib.hid MH.out.len
       have BNW := Lib.hid BW.out
       clear o5 g5 s5 m6 hb5 k5
       go_wp2
       go_roundw
       case rel =>
        refine ⟨k + 1, by omega, by go_num, ?_, ⟨B.b, g', cap', B2.nw⟩, cs2 ++ [((.map none : Value), (.slice none 0 0 : Value))], rfl, BNW.out, ?_, K6.out⟩
        ·rw [PS1.out, TK1.out]
         have := edges_new HN.out
         unfold edges at this
         rw [if_pos (by simp)] at this
         rw [Option.some.inj this]
         rw [← LEN2.out]
        ·rw [PS1.out]; exact M6.out
       case measure => simp [intOf]; omega
  ·obtain rfl : k = n := by omega
   have TPE := Lib.hid (show p.take k = p from List.take_of_length_le (by rw [PL.out]; omega))
   have PM := Lib.hid (putTo_mem_take HT.out p k)
   have TP := Lib.hid (HT.out.putTo p k (by rw [PL.out]; omega))
   rw [TPE.out] at PM ⊢
   generalize hPP : putTo ps p k = P at *
   have HPP := Lib.hid hPP
   clear hPP
   have HP := Lib.hid (getIdx PM.out)
   obtain ⟨ix, hix⟩ : ∃ ix, P.idxOf p = ix := ⟨_, rfl⟩
   rw [hix] at HP ⊢
   have hixl : ix < P.length := by rw [← hix]; exact List.idxOf_lt_length_of_mem PM.out
   clear hix
   obtain ⟨c, hcc⟩ : ∃ c, cs2[ix]? = some c := ⟨_, List.getElem?_eq_getElem (by rw [HM.out.len]; exact hixl)⟩
   obtain ⟨mv, vv⟩ := c
   have HCC := Lib.hid hcc
   have hcl : ix < cs2.length := by rw [HM.out.len]; exact hixl
   clear hcc hlt hk
   have cb : wr.cell? ⟨B2.b, 0, none⟩ = some (.slice (some ⟨B2.g, 0, none⟩) cs2.length B2.cap) := cell_of HM.out.hb rfl
   have cw : wr.cell? ⟨B2.g, ix * 2 + 1, none⟩ = some vv := (HM.out.mcell HCC.out).2
   rw [BB.out] at cb
   have w1 : IntKind.i64.wrap (ix : Int) = (ix : Int) := by rw [IntKind.wrap_i64]; have := HM.out.gRow; obtain ⟨_, _, h1, h2, _⟩ := this; unfold maxLen at h2; omega
   have b1 : (0 : Int) ≤ (ix : Int) := by omega
   have b2 : (ix : Int) < (cs2.length : Int) := by omega
   go_wp2
   refine wp_region_planL (N := 96) [.rd [0, 1, 2, 3, 4, 5, 6, 7, 8, 9, 10, 11, 12, 13], .ef 14, .ef 15, .ef 16, .ef 17, .ef 18] 18 (fun w' => w'.cell? ⟨B.b, 0, none⟩ = some (.slice (some ⟨B2.g, 0, none⟩) cs2.length B2.cap) ∧ w'.cell? ⟨B2.g, ix * 2 + 1, none⟩ = some vv) (by kernel_rfl) (by kernel_rfl) (by kernel_rfl) (by kernel_rfl) (by kernel_rfl) (Nat.le_of_ble_eq_true rfl) ⟨cb, cw⟩ ?_
   refine planL_rd (A := ?A1) ?h1 ?h2
   case h1 =>
    intro w' hS K hK
    obtain ⟨s1, s2⟩ := hS
    simp only [opsAt, List.filterMap_cons, List.filterMap_nil, List.getElem?_toArray, List.getElem?_cons_succ, List.getElem?_cons_zero]
    repeat still_step
    refine wpStill_nil ?_
    exact hK
   have M1 := Lib.hid (HM.out.chg (chg_drew (fun _ => False) wr))
   have C1 := Lib.hid HC.out.drew
   clear cb cw w1 HM HC
   generalize wr.drew = wd at *
   have cb : wd.cell? ⟨B2.b, 0, none⟩ = some (.slice (some ⟨B2.g, 0, none⟩) cs2.length B2.cap) := cell_of M1.out.hb rfl
   rw [BB.out] at cb
   have cw : wd.cell? ⟨B2.g, ix * 2 + 1, none⟩ = some vv := (M1.out.mcell HCC.out).2
   have EW := Lib.hid (M1.out.ew ix p _ HP.out HCC.out)
   have hbz := lt_of_obj M1.out.hb
   have hbb := M1.out.bb
   refine planL_ef rfl ?_
   go_wp2_with fail
   have M2 := Lib.hid (M1.out.chg (chg_alloc (fun _ => False) wd (.cells #[.int .i64 (which : Int)] 3)))
   have cb2 : (wd.alloc (.cells #[.int .i64 (which : Int)] 3)).cell? ⟨B2.b, 0, none⟩ = some (.slice (some ⟨B2.g, 0, none⟩) cs2.length B2.cap) := cell_of M2.out.hb rfl
   rw [BB.out] at cb2
   first | refine ⟨.inr ⟨cb2, (M2.out.mcell HCC.out).2⟩, ?_⟩ | refine ⟨⟨cb2, (M2.out.mcell HCC.out).2⟩, ?_⟩
   refine planL_ef rfl ?_
   refine wpList_pushF rfl (.tmp 90) (.tmp 92) 36 rfl 3 1 8 Tryz.underlying36 Tryz.elemInt base _ _ _ rfl (EW.out.alloc _) _ [.int .i64 (which : Int)] 3 (0, 0) rfl (obj_alloc_new _ _) rfl (by intro u hu; simp at hu; subst hu; rfl) (by omega) (by unfold maxLen; omega) (by simp; omega) ?_
   intro v' w5 o5 g5 s5
   have m6 := M2.out.addWord TP.out.nodup (k := ix) (which := which) HP.out HCC.out o5 g5 s5
   have k5 : Chg (fun x => base ≤ x) w w5 := (C1.out.alloc (.cells #[.int .i64 (which : Int)] 3)).trans ((Chg.of_grown g5).mono (T := fun x => base ≤ x) (fun x _ e => (EW.out.lt x e).1))
   obtain ⟨sa, sc, rfl⟩ := own_shape o5
   have hvg : ¬ (Value.ownBlock vv = some B2.g) := fun e => (M2.out.ag _ _ (cell_flat2 HCC.out)).1 (ownBlock_blockOf e)
   have hvb : ¬ (Value.ownBlock vv = some B2.b) := fun e => (M2.out.ag _ _ (cell_flat2 HCC.out)).2 (ownBlock_blockOf e)
   have cb5 : w5.cell? ⟨B2.b, 0, none⟩ = some (.slice (some ⟨B2.g, 0, none⟩) cs2.length B2.cap) := cell_of ((Chg.of_grown g5).obj hvb M2.out.hb) rfl
   rw [BB.out] at cb5
   have cw5 : w5.cell? ⟨B2.g, ix * 2 + 1, none⟩ = some vv := cell_chg (Chg.of_grown g5) hvg (M2.out.mcell HCC.out).2
   have fw5 : w5.frozen? ⟨B2.g, ix * 2 + 1, none⟩ = false := by
    obtain ⟨rest, hh, _⟩ := M2.out.gRow
    exact frozen_of ((Chg.of_grown g5).obj hvg hh)
   have M6 := Lib.hid m6
   have K6 := Lib.hid (k5.trans ((chg_cell w5 B2.g (ix * 2 + 1) (.slice sa ((wh p).length + 1) sc)).mono (T := fun x => base ≤ x) (fun x _ e => by have := M2.out.glt.1; show base ≤ x; omega)))
   clear o5 g5 s5 m6 k5 cb cw cb2
   go_wp2_with fail
   first | refine ⟨.inr ⟨cb5, cw5⟩, ?_⟩ | refine ⟨⟨cb5, cw5⟩, ?_⟩
   refine planL_ef rfl ?_
   go_wp2_with fail
   first | refine ⟨.inr ⟨cb5, cw5⟩, ?_⟩ | refine ⟨⟨cb5, cw5⟩, ?_⟩
   refine planL_ef rfl ?_
   go_wp2_with fail
   first | refine ⟨.inr ⟨cb5, cw5⟩, ?_⟩ | refine ⟨⟨cb5, cw5⟩, ?_⟩
   refine planL_ef rfl ?_
   refine wpList_store_one rfl 36 (.tmp 95) (.tmp 93) rfl B2.g (ix * 2 + 1) rfl (.slice sa ((wh p).length + 1) sc) rfl rfl rfl Tryz.sizeInts _ cw5 fw5 ?_
   intro w7 hw7
   rw [← hw7] at M6 K6
   clear hw7 cb5 cw5 fw5
   refine ⟨.inl rfl, planL_nil ?_⟩
   go_wp2
   go_end0
   exact ⟨rfl, B2, _, BB.out, BW.out, by rw [HPP.out]; exact M6.out, K6.out⟩
end Go.Proofs.YthdfplafihmejaaGreat

namespace Go.Proofs.YthdfplafihmejaaGreat
open Go.RowKit Go.Maps

/-- A slice of words, to be read. -/
def WordsAt (w : World) (v : Value) (G : Nat → Prop) (l : List ByteArray) : Prop :=
 ∃ la cap, v = .slice la l.length cap ∧ l.length ≤ maxLen ∧ ∀ (j : Nat) x, l[j]? = some x → ∃ lb lo, la = some ⟨lb, lo, none⟩ ∧ G lb ∧ w.cell? ⟨lb, lo + j, none⟩ = some (.string x) ∧ x.size ≤ maxLen
theorem WordsAt.chg {S : Nat → Prop} {w w' : World} {v : Value} {G : Nat → Prop} {l : List ByteArray} (h : WordsAt w v G l) (hc : Chg S w w') (hs : ∀ k, G k → ¬ S k) : WordsAt w' v G l := by
 obtain ⟨la, cap, h1, h2, h3⟩ := h
 exact ⟨la, cap, h1, h2, fun j x hj => by obtain ⟨lb, lo, q1, q2, q3, q4⟩ := h3 j x hj; exact ⟨lb, lo, q1, q2, cell_chg hc (hs lb q2) q3, q4⟩⟩
def lists (l : List ByteArray) : List (List UInt8) := l.map fun s => s.data.toList
theorem lists_get {l : List ByteArray} {j : Nat} {x : ByteArray} (h : l[j]? = some x) : (lists l).getD j [] = x.data.toList := by
 unfold lists; rw [List.getD_eq_getElem?_getD, List.getElem?_map, h]; rfl
theorem lists_length (l : List ByteArray) : (lists l).length = l.length := by simp [lists]
theorem tree_pathsTo (l : List (List UInt8)) : ∀ n, Tree (pathsTo l n)
 | 0 => tree_root
 | n + 1 => by
  rw [pathsTo]
  split
  ·exact (tree_pathsTo l n).putTo _ _ (Nat.le_refl _)
  ·exact tree_pathsTo l n
theorem pathsTo_mem (l : List (List UInt8)) : ∀ n i, i < n → mayB (l.getD i []) = true → atoms (l.getD i []) ∈ pathsTo l n
 | 0, i, h, _ => by omega
 | n + 1, i, h, hm => by
  rw [pathsTo]
  rcases Nat.lt_or_ge i n with q | q
  ·have ih := pathsTo_mem l n i q hm
   split
   ·exact (putTo_mem _ _ _ _).2 (.inl ih)
   ·exact ih
  ·obtain rfl : i = n := by omega
   rw [if_pos hm]
   have := putTo_mem_take (tree_pathsTo l i) (atoms (l.getD i [])) (atoms (l.getD i [])).length
   rw [List.take_length] at this
   exact this
theorem whichTo_none (l : List (List UInt8)) (n : Nat) (q : List Nat) (h : q ∉ pathsTo l n) : whichTo l n q = [] := by
 unfold whichTo
 rw [List.filter_eq_nil_iff]
 intro i hi hc
 simp only [Bool.and_eq_true, beq_iff_eq] at hc
 exact h (hc.2 ▸ pathsTo_mem l n i (List.mem_range.1 hi) hc.1)
theorem whichTo_length (l : List (List UInt8)) (n : Nat) (q : List Nat) : (whichTo l n q).length ≤ n := by
 have := List.length_filter_le (fun i => mayB (l.getD i []) && (atoms (l.getD i []) == q)) (List.range n)
 simpa [whichTo] using this
theorem whichTo_yes (l : List (List UInt8)) (n : Nat) (hm : mayB (l.getD n []) = true) : whichTo l (n + 1) = fun q => if q = atoms (l.getD n []) then whichTo l n q ++ [n] else whichTo l n q := by
 funext q
 unfold whichTo
 rw [List.range_succ, List.filter_append]
 by_cases e : q = atoms (l.getD n [])
 ·rw [if_pos e]; simp only [List.filter_cons, hm, e, beq_self_eq_true, Bool.and_self, if_true, List.filter_nil]
 ·rw [if_neg e]
  have : (atoms (l.getD n []) == q) = false := by rw [beq_eq_false_iff_ne]; exact fun h => e h.symm
  simp only [List.filter_cons, hm, this, Bool.and_false, Bool.false_eq_true, if_false, List.filter_nil, List.append_nil]
theorem whichTo_no (l : List (List UInt8)) (n : Nat) (hm : mayB (l.getD n []) = false) : whichTo l (n + 1) = whichTo l n := by
 funext q
 unfold whichTo
 rw [List.range_succ, List.filter_append]
 simp only [List.filter_cons, hm, Bool.false_and, Bool.false_eq_true, if_false, List.filter_nil, List.append_nil]
theorem pathsTo_length (l : List (List UInt8)) : ∀ n, (pathsTo l n).length ≤ 1 + 8 * n
 | 0 => by simp [pathsTo]
 | n + 1 => by
  have ih := pathsTo_length l n
  rw [pathsTo]
  split
  ·rename_i hm
   have h8 : (atoms (l.getD n [])).length ≤ 8 := by rw [atoms_length]; exact ((mayB_iff _).1 hm).2.2.1
   have := putTo_length (pathsTo l n) (atoms (l.getD n [])) (atoms (l.getD n [])).length
   unfold putP; omega
  ·omega
theorem mach_start (w : World) (n : Nat) (l : List (List UInt8)) :
  MachAt ((w.alloc (.cells #[.map none, .slice none 0 0] 273)).alloc (.cells #[.slice (some ⟨w.heap.size, 0, none⟩) 1 1, .int .i64 (n : Int)] 262)) w.heap.size ⟨w.heap.size + 1, w.heap.size, 1, n⟩ [(.map none, .slice none 0 0)] (pathsTo l 0) (whichTo l 0) := by
 have e1 : ((w.alloc (.cells #[.map none, .slice none 0 0] 273)).alloc (.cells #[.slice (some ⟨w.heap.size, 0, none⟩) 1 1, .int .i64 (n : Int)] 262)).heap[w.heap.size]? = some (.cells #[.map none, .slice none 0 0] 273 (0, 0)) := obj_alloc _ (obj_alloc_new _ _)
 have e2 : ((w.alloc (.cells #[.map none, .slice none 0 0] 273)).alloc (.cells #[.slice (some ⟨w.heap.size, 0, none⟩) 1 1, .int .i64 (n : Int)] 262)).heap[w.heap.size + 1]? = some (.cells #[.slice (some ⟨w.heap.size, 0, none⟩) 1 1, .int .i64 (n : Int)] 262 (0, 0)) := by
  have := obj_alloc_new (w.alloc (.cells #[.map none, .slice none 0 0] 273)) (.cells #[.slice (some ⟨w.heap.size, 0, none⟩) 1 1, .int .i64 (n : Int)] 262)
  simpa using this
 have one : ∀ (k : Nat) p c, (pathsTo l 0)[k]? = some p → [((.map none : Value), (.slice none 0 0 : Value))][k]? = some c → p = [] ∧ c = (.map none, .slice none 0 0) := by
  intro k p c h1 h2
  rcases k with _ | k
  ·simp [pathsTo] at h1 h2; exact ⟨h1, h2.symm⟩
  ·simp at h2
 have blk : ∀ (i : Nat) u, (flat [((.map none : Value), (.slice none 0 0 : Value))])[i]? = some u → blockOf u = none := by
  intro i u h
  have := List.mem_of_getElem? h
  simp [flat] at this
  rcases this with rfl | rfl <;> rfl
 refine ⟨e2, ⟨by simp [flat], .inr ⟨w.heap.size, 1, _, rfl, Nat.le_refl _, e1, Nat.le_refl _, by unfold maxLen; omega, rfl, rfl⟩⟩, rfl, ?_, ?_, ?_, ?_, by show w.heap.size + 1 ≠ w.heap.size; omega, by show w.heap.size ≤ w.heap.size + 1; omega⟩
 ·intro k p c h1 h2
  obtain ⟨rfl, rfl⟩ := one k p c h1 h2
  exact .inl ⟨rfl, fun a _ => by simp [edges, pathsTo]⟩
 ·intro k p c h1 h2
  obtain ⟨rfl, rfl⟩ := one k p c h1 h2
  exact World.ownsRow_nil _ _ _ _
 ·intro i j x u v h1 h2 h3
  rw [blk i u h1] at h3; cases h3
 ·intro i u h
  rw [blk i u h]; exact ⟨(fun q => by cases q), (fun q => by cases q)⟩

theorem new_any (w : World) (v : Value) (l : List ByteArray) (hv : WordsAt w v (· < w.heap.size) l) (hl : l.length ≤ 410) (hs : ∀ x ∈ l, x.size ≤ 400) :
  Calls Tryz.prog 168 #[v] w fun e w' => ∃ B cs, e = .returned (.pointer (some ⟨B.b, 0, none⟩)) ∧ B.nw = l.length ∧ MachAt w' w.heap.size B cs (pathsTo (lists l) l.length) (whichTo (lists l) l.length) ∧ Chg (fun _ => False) w w' := by
 obtain ⟨la, cap, rfl, _, hl3⟩ := hv
 have HL3 := Lib.hid hl3
 have HS := Lib.hid hs
 clear hl3 hs
 have hmk : ∀ w : World, (Instr.makeSlice 260 (.int .i64 1) (.int .i64 1)).run Tryz.prog w = .ok (.slice (some ⟨w.heap.size, 0, none⟩) 1 1) (w.alloc (.cells #[.map none, .slice none 0 0] 273)) := fun _ => by kernel_rfl
 have MS := Lib.hid (mach_start w l.length (lists l))
 have CS := Lib.hid (((chg_alloc (fun _ => False) w (.cells #[.map none, .slice none 0 0] 273))).alloc (.cells #[.slice (some ⟨w.heap.size, 0, none⟩) 1 1, .int .i64 (l.length : Int)] 262))
 go_enter Tryz.func168, Tryz.ntmps168
 go_wp2
 go_loopw [13] (fun iv wr => ∃ (k : Nat) (B : MB) (cs : List (Value × Value)), k ≤ l.length ∧ iv = .int .i64 k ∧ B.b = w.heap.size + 1 ∧ B.nw = l.length ∧ MachAt wr w.heap.size B cs (pathsTo (lists l) k) (whichTo (lists l) k) ∧ Chg (fun _ => False) w wr) (fun iv _ => l.length - (intOf iv).toNat)
 case atStart => exact ⟨0, ⟨w.heap.size + 1, w.heap.size, 1, l.length⟩, _, by omega, rfl, rfl, rfl, MS.out, CS.out⟩
 case round =>
  obtain ⟨k, B, cs, hk, rfl, hb, hw, hm, hc⟩ := hrel
  have HB := Lib.hid hb
  have HW := Lib.hid hw
  have HM := Lib.hid hm
  have HC := Lib.hid hc
  clear hb hw hm hc MS CS
  by_cases hlt : k < l.length
  ·obtain ⟨x, hx⟩ : ∃ x, l[k]? = some x := ⟨_, List.getElem?_eq_getElem hlt⟩
   obtain ⟨lb, lo, rfl, hlb, c0, _⟩ := HL3.out k x hx
   have c1 := cell_chg HC.out (fun e => e) c0
   have hx4 := HS.out x (List.mem_of_getElem? hx)
   have GX := Lib.hid (lists_get hx)
   clear c0 hx
   have MAY := Lib.hid (fun w => wmay_any w x (by unfold maxLen; omega))
   by_cases hm : mayB x.data.toList = true
   ·rw [hm] at MAY
    have PN := Lib.hid (show pathsTo (lists l) (k + 1) = putP (pathsTo (lists l) k) (atoms x.data.toList) by rw [pathsTo, GX.out, if_pos hm])
    have WN := Lib.hid (show whichTo (lists l) (k + 1) = fun q => if q = atoms x.data.toList then whichTo (lists l) k q ++ [k] else whichTo (lists l) k q by
     have := whichTo_yes (lists l) k (by rw [GX.out]; exact hm)
     rw [GX.out] at this; exact this)
    have hpl := pathsTo_length (lists l) k
    go_wp2_with fail
    refine (MAY.out wr).mono ?_
    rintro e w1 ⟨rfl, k1⟩
    have M1 := Lib.hid (HM.out.chg k1)
    have C1 := Lib.hid (HC.out.trans k1)
    have PUT := Lib.hid (put_any w1 w.heap.size B cs (pathsTo (lists l) k) (whichTo (lists l) k) k x M1.out (tree_pathsTo (lists l) k) hx4 (by omega) (fun q hq => whichTo_none (lists l) k q hq) (by have := whichTo_length (lists l) k (atoms x.data.toList); omega))
    rw [HB.out] at PUT
    clear k1 hm HM HC
    go_wp2_with fail
    refine (PUT.out).mono ?_
    rintro e w2 ⟨rfl, B', cs', hb', hw', m2, k2⟩
    have M2 := Lib.hid m2
    have C2 := Lib.hid (show Chg (fun _ => False) w w2 from ⟨k2.os.trans C1.out.os, k2.tape.trans C1.out.tape, k2.output.trans C1.out.output, Nat.le_trans C1.out.size k2.size, fun i hi _ => by rw [k2.block i (by have := C1.out.size; omega) (by omega)]; exact C1.out.block i hi (fun e => e)⟩)
    have HB2 := Lib.hid hb'
    have HW2 := Lib.hid hw'
    clear hb' hw' m2 k2
    go_wp2
    go_roundw
    case rel => exact ⟨k + 1, B', cs', by omega, by go_num, HB2.out, HW2.out.trans HW.out, by rw [PN.out, WN.out]; exact M2.out, C2.out⟩
    case measure => simp [intOf]; omega
   ·have hm : mayB x.data.toList = false := by simpa using hm
    rw [hm] at MAY
    have PN := Lib.hid (show pathsTo (lists l) (k + 1) = pathsTo (lists l) k by rw [pathsTo, GX.out, hm]; rfl)
    have WN := Lib.hid (whichTo_no (lists l) k (by rw [GX.out]; exact hm))
    go_wp2_with fail
    refine (MAY.out wr).mono ?_
    rintro e w1 ⟨rfl, k1⟩
    have M1 := Lib.hid (HM.out.chg k1)
    have C1 := Lib.hid (HC.out.trans k1)
    clear k1 hm
    go_wp2
    go_roundw
    case rel => exact ⟨k + 1, B, cs, by omega, by go_num, HB.out, HW.out, by rw [PN.out, WN.out]; exact M1.out, C1.out⟩
    case measure => simp [intOf]; omega
  ·obtain rfl : k = l.length := by omega
   go_wp2
   go_ret
   exact ⟨B, cs, by rw [HB.out]; rfl, HW.out, HM.out, HC.out⟩
end Go.Proofs.YthdfplafihmejaaGreat
