/-
  What Make makes, by computing. Layer 17: awake, in plain Lean. Layer 17: what is asked; decide, explain, own. Layer 17: long. Layer 17: awake, walked. DecideWhy, walked. Each grant has a why that the look takes, and the look takes none, where the answer is Deny. (Where what is read is of bulk at most 1048576.) QSame: what else. VPlain2: what else. VArgs: what else.
-/
import Derived.Test.YthdfplafihmejaaGreatZcQMake
import Derived.Test.YthdfplafihmejaaGreatZcVPlain2
import Derived.Test.YthdfplafihmejaaGreatZcVCheck
import Derived.Deep.DeepCutAuto
import Derived.Deep.CutBlock
import Derived.Test.YthdfplafihmejaaGreatZcCLike
import Derived.Test.YthdfplafihmejaaGreatZcVArgs
import Derived.Deep.CondSized
import Derived.Test.YthdfplafihmejaaGreatZcQRWalk
import Derived.Test.YthdfplafihmejaaGreatZcUPlainY
namespace Go.Proofs.YthdfplafihmejaaGreat
open Go.RowKit Go.Maps
deriving instance DecidableEq for zF
deriving instance DecidableEq for zS
def zkD (roots : Int) (C : List zn) (p : zS) : Bool := decide (0 <= roots) && (((List.range p.items.length).all fun k => match p.items[k]? with
 | some x => zeD roots C p.items k x
 | none => true) && yz roots (tot C p.items p.items.length) p.steps)
theorem zjc {roots : Int} {C : List zn} {p : zS} : zkD roots C p = true ↔ xG roots C p := by
 unfold zkD;rw [Bool.and_eq_true, Bool.and_eq_true, decide_eq_true_eq, List.all_eq_true];constructor
 ·rintro ⟨h1, h2, h3⟩
  refine ⟨h1, fun k x hx => ?_, h3⟩;have := h2 k (List.mem_range.2 (List.getElem?_eq_some_iff.1 hx).1);rw [hx] at this;exact this
 ·rintro ⟨h1, h2, h3⟩
  refine ⟨h1, fun k _ => ?_, h3⟩;cases hx : p.items[k]? with
  | none => rfl
  | some x => exact h2 k x hx
theorem zlK {R : List zA} {C : List zn} {x u : ByteArray} {b : Int} {s : ASt} {q : zS} (h1 : Zj R C b = .ok s) (h2 : yx s.rules x u b = 0) (h3 : zkD R.length C (yq R C b s x u) = true) (h4 : zkE R.length C (yq R C b s x u) = q) : XF R C x u b = (0, q) := by
 unfold XF;rw [h1];simp only;rw [if_pos h2, if_pos (zjc.1 h3), h4]
def zmr (x : Except Int ASt) (s : ASt) : Bool := match x with
 | .ok t => decide (t.order = s.order) && decide (t.rules = s.rules)
 | .error _ => false
theorem zj6 {x : Except Int ASt} {s : ASt} (h : zmr x s = true) : x = .ok s := by
 unfold zmr at h;cases x with
 | error e => cases h
 | ok t =>
  simp only [Bool.and_eq_true, decide_eq_true_eq] at h;cases t; cases s;simp at h;rw [h.1, h.2]
deriving instance DecidableEq for zeW
def k17 (i : Nat) : ByteArray := ⟨#[32, UInt8.ofNat i]⟩
def n17 : ByteArray := ⟨#[96, 1]⟩
def zdj : List zA := [(n17, k17 1)]
def zdk : List zn := [⟨6, 8193, k17 2, [n17], 0, 0, 0⟩]
def zdH : List zW := [(0, [n17])]
def zje : ASt := ⟨[0], [(n17, k17 1), (n17, k17 2)]⟩
def zkN : zS := ⟨[⟨0, [[(0, 0)]]⟩], [(0, 1)]⟩
theorem zme : Zj zdj zdk 9 = .ok zje := zj6 (by decide +kernel)
theorem zkM : XF zdj zdk n17 (k17 2) 9 = (0, zkN) := zlK zme (by decide +kernel) (by decide +kernel) (by decide +kernel)
theorem zmt : xH zdj zdk zdH 0 [k17 2] 9 = (0, ⟨1, 0, false, zje.rules⟩) := by decide +kernel
theorem zno : xH zdj zdk zdH 0 [k17 3] 9 = (0, ⟨0, -1, false, zje.rules⟩) := by decide +kernel
theorem znV : xH zdj zdk zdH 0 [n17] 1 = (0, ⟨1, 0, true, []⟩) := by decide +kernel
theorem znU : xH zdj zdk zdH 0 [k17 3] 1 = (0, ⟨2, 0, false, []⟩) := by decide +kernel
def zdG : zdq := ⟨0, [0], [zkN]⟩
theorem znW : zcl zdj zdk zdH 0 [k17 2] 9 = (1, zdG, 0) := by
 unfold zcl;rw [zmt, if_pos ⟨rfl, rfl⟩];have t : toW ⟨1, 0, false, zje.rules⟩ 9 [k17 2] n17 = 0 := by decide +kernel
 have w : ze4 zdH 0 = [n17] := rfl;unfold zmJ;simp only [w, List.map_cons, List.map_nil, t];unfold zjW;rw [if_neg (by decide), t];show ((1 : Int), (⟨0, [0], [(XF zdj zdk n17 (k17 2) 9).2]⟩ : zdq), (0 : Int)) = _;rw [zkM];rfl
theorem znT : zcl zdj zdk zdH 0 [n17] 1 = (1, ⟨0, [0], [⟨[], []⟩]⟩, 0) := by
 unfold zcl;rw [znV, if_pos ⟨rfl, rfl⟩];have t : toW ⟨1, 0, true, []⟩ 1 [n17] n17 = 0 := by decide +kernel
 have w : ze4 zdH 0 = [n17] := rfl;unfold zmJ;simp only [w, List.map_cons, List.map_nil, t];unfold zjW;rw [if_pos rfl];rfl
theorem znX : zeU zdj zdk zdH 0 [k17 2] zdG = 0 := by decide +kernel
theorem znp : zeU zdj zdk zdH 0 [k17 3] zdG = 13 := by decide +kernel
structure zeS (w : World) (ra : Option Addr) (R : List zA) (rc : Nat) (v lv cv : Value) (P : List (zn × Value)) (L : List zW) (c : List ByteArray) (G : Nat -> Prop) : Prop where
 run : Yq w ra R rc v P G
 ents : Zu w lv G L
 few : L.length <= 1000
 set : zu w cv G c
theorem zeS.chg {w w' : World} {ra : Option Addr} {R : List zA} {rc : Nat} {v lv cv : Value} {P : List (zn × Value)} {L : List zW} {c : List ByteArray} {G : Nat -> Prop} (h : zeS w ra R rc v lv cv P L c G) (k : Chg (fun _ => False) w w') : zeS w' ra R rc v lv cv P L c G :=
 ⟨h.run.chg k, h.ents.chg k (fun _ _ e => e), h.few, h.set.chg k (fun _ _ e => e)⟩
section
variable (w : World) (ra : Option Addr) (R : List zA) (rc : Nat) (v lv cv : Value) (P : List (zn × Value)) (L : List zW) (op : Int) (c : List ByteArray) (b : Int) (G : Nat -> Prop)
theorem zmh (h : zeS w ra R rc v lv cv P L c G) : Calls Tryz.prog 11 #[.agg #[.slice ra R.length rc, v, lv, .int .i64 op, cv, .int .i64 b]] w fun e w' => e = .returned (.tuple #[.int .i64 (xH R (zj P) L op c b).2.ans, .int .i64 (xH R (zj P) L op c b).1]) ∧ Chg (fun _ => False) w w' := by
 have kb := zh (fun _ => False) w (.cells #[.slice ra R.length rc, v, lv, .int .i64 op, cv, .int .i64 b] 28);have h1 := h.chg kb;have D := zb (znj _ ra R rc v lv cv P L op c b G G G h1.run h1.ents h1.few h1.set);have KB := zb kb;obtain ⟨la, lcap, rfl, _, _⟩ := h.run.certs;obtain ⟨ea, ec, rfl, _, _⟩ := h.ents.shape;obtain ⟨ca, cc, rfl, _, _⟩ := h.set;generalize xH R (zj P) L op c b = q at *;clear h h1 kb;go_enter Tryz.func11, Tryz.ntmps11;go_wp2_with fail;(with_reducible refine D.out.mono ?_);rintro e w2 ⟨rfl, k2⟩;go_wp2;go_ret2;exact ⟨rfl, KB.out.trans k2⟩
theorem zmg (h : zeS w ra R rc v lv cv P L c G) : Calls Tryz.prog 13 #[.agg #[.slice ra R.length rc, v, lv, .int .i64 op, cv, .int .i64 b]] w (zlc w (zcl R (zj P) L op c b)) := by
 have kb := zh (fun _ => False) w (.cells #[.slice ra R.length rc, v, lv, .int .i64 op, cv, .int .i64 b] 28);have kc := zh (fun _ => False) (w.alloc (.cells #[.slice ra R.length rc, v, lv, .int .i64 op, cv, .int .i64 b] 28)) (.cells #[.int .i64 0, .slice none 0 0, .slice none 0 0] 39);have oc := zf (w.alloc (.cells #[.slice ra R.length rc, v, lv, .int .i64 op, cv, .int .i64 b] 28)) (.cells #[.int .i64 0, .slice none 0 0, .slice none 0 0] 39);rw [World.size_alloc] at oc;have h1 := h.chg (kb.trans kc);have D := zb (zg6 _ ra R rc v lv cv P L op c b G G G h1.run h1.ents h1.few h1.set);have KB := zb (kb.trans kc);have OC := zb oc;obtain ⟨la, lcap, rfl, _, _⟩ := h.run.certs;obtain ⟨ea, ec, rfl, _, _⟩ := h.ents.shape;obtain ⟨ca, cc, rfl, _, _⟩ := h.set;generalize zcl R (zj P) L op c b = q at *;clear h h1 kb kc oc;go_enter Tryz.func13, Tryz.ntmps13;go_wp2_with fail;generalize (w.alloc (.cells #[.slice ra R.length rc, .slice la P.length lcap, .slice ea L.length ec, .int .i64 op, .slice ca c.length cc, .int .i64 b] 28)).alloc (.cells #[.int .i64 0, .slice none 0 0, .slice none 0 0] 39) = w1 at *;(with_reducible refine D.out.mono ?_);rintro e w2 ⟨k2, tv, pv, rfl, hy⟩;have O2 := zb (k2.obj (fun e => e) OC.out);have K2 := zb (KB.out.trans k2);have HY := zb hy;have HS := zb (show w.heap.size + 1 < w1.heap.size from zq OC.out);have d0 := ze (o := 0) O2.out rfl;have e0 := zk (o := 0) O2.out;have d1 := ze (o := 1) O2.out rfl;have e1 := zk (o := 1) O2.out;have d2 := ze (o := 2) O2.out rfl;have e2 := zk (o := 2) O2.out;obtain ⟨ta, tc, rfl, _, _⟩ := hy.ways;obtain ⟨qa, qc, rfl, _, _⟩ := hy.proofs;obtain ⟨q1, ⟨en, ways, proofs⟩, q3⟩ := q;simp only at HY;clear hy k2 D;go_wp2;obtain ⟨W, hW⟩ : ∃ W, W = ((w2.setCell ⟨w.heap.size + 1, 0, none⟩ (.int .i64 en)).setCell ⟨w.heap.size + 1, 1, none⟩ (.slice ta ways.length tc)).setCell ⟨w.heap.size + 1, 2, none⟩ (.slice qa proofs.length qc) := ⟨_, rfl⟩;rw [<- hW];obtain ⟨ob, kW⟩ := zn7 O2.out _ _ _ W hW;clear hW;have z0 : W.cell? ⟨w.heap.size + 1, 0, none⟩ = some (.int .i64 en) := ze ob rfl;have z1 : W.cell? ⟨w.heap.size + 1, 1, none⟩ = some (.slice ta ways.length tc) := ze ob rfl;have z2 : W.cell? ⟨w.heap.size + 1, 2, none⟩ = some (.slice qa proofs.length qc) := ze ob rfl;refine bodyPost_ret (v := .tuple #[.int .i64 q1, .agg #[.int .i64 en, .slice ta ways.length tc, .slice qa proofs.length qc], .int .i64 q3]) (by simp [results, Tryz.results13, go_sem, z0, z1, z2]) rfl ?_;have hs := kW.size;have hs1 := HS.out;exact ⟨K2.out.next kW (fun k hk e => by omega), _, _, rfl, (HY.out.chg kW (fun k hk e => by omega)).up (fun k hk => ⟨by omega, by omega⟩)⟩
end
structure zdm (p : zS) : Prop where
 items : p.items.length <= 12
 steps : p.steps.length <= 60
 path : ∀ x ∈ p.items, x.paths.length <= 20 ∧ ∀ l ∈ x.paths, l.length <= 60
structure zmy (y : zdq) : Prop where
 many : y.proofs.length <= 20 ∧ y.ways.length <= 20
 proof : ∀ p ∈ y.proofs, zdm p
def zk9 (w : World) (y : zdq) (e : Ending) (w' : World) : Prop := ∃ b : Bool, e = .returned (.bool b) ∧ Chg (fun _ => False) w w' ∧ (b = false -> zmy y)
theorem zaZ (w : World) (i : Nat) (z : Int) (hz : z = i) (x : ByteArray) (hi : i < 100) (hx : (⟨(zY [8192 + i]).toArray⟩ : ByteArray) = x) : Calls Tryz.prog 29 #[.int .i64 z] w fun e w' => e = .returned (.string x) ∧ Chg (fun _ => False) w w' := by
 subst hz;have w1 : IntKind.i64.wrap (8192 + (i : Int)) = ((8192 + i : Nat) : Int) := by rw [IntKind.wrap_i64]; omega
 have w2 : IntKind.u16.wrap ((8192 + i : Nat) : Int) = ((8192 + i : Nat) : Int) := by show ((8192 + i : Nat) : Int) % 65536 = _; omega
 have OF := zb (zj5 w (8192 + i) _ rfl x (by omega) hx);clear hx;go_enter Tryz.func29, Tryz.ntmps29;generalize 8192 + i = n at *;go_wp2_with fail;(with_reducible refine OF.out.mono ?_);rintro e w2 ⟨rfl, k2⟩;go_wp2;go_ret;exact ⟨rfl, k2⟩
theorem zl0 {w : World} {b : Nat} {op : Int} {sv : Value} {l : List ByteArray} {G : Nat -> Prop} (ho : w.heap[b]? = some (.cells #[.int .i64 op, sv] 56 (0, 0))) (hs : Yo w sv G l) (hb : G b) : Zu w (.slice (some ⟨b, 0, none⟩) 1 1) G [(op, l)] := by
 refine ⟨[(op, sv)], some ⟨b, 0, none⟩, 1, rfl, by simp, by simp [maxLen], (fun e => by cases e), ⟨rfl, fun j e x h1 h2 => ?_⟩, fun j u hj => ⟨b, 0, rfl, hb, ?_⟩⟩
 · cases j with
   | zero => cases h1; cases h2; exact ⟨rfl, hs⟩
   | succ j => simp at h1
 · rw [Nat.zero_add]
   exact ze ho (by simpa [ZO] using hj)
theorem zcg {w : World} {b : Nat} {a0 a1 a2 a3 a4 a5 : Value} {t : TypeId} {f : Nat × Nat} (h : w.heap[b]? = some (.cells #[a0, a1, a2, a3, a4, a5] t f)) : w.cell? ⟨b, 0, none⟩ = some a0 ∧ w.cell? ⟨b, 1, none⟩ = some a1 ∧ w.cell? ⟨b, 2, none⟩ = some a2 ∧ w.cell? ⟨b, 3, none⟩ = some a3 ∧ w.cell? ⟨b, 4, none⟩ = some a4 ∧ w.cell? ⟨b, 5, none⟩ = some a5 :=
 ⟨ze (o := 0) h rfl, ze (o := 1) h rfl, ze (o := 2) h rfl, ze (o := 3) h rfl, ze (o := 4) h rfl, ze (o := 5) h rfl⟩
theorem zdP {w W : World} {ra : Option Addr} {R : List zA} {rc : Nat} {v : Value} {P : List (zn × Value)} (h : Yq w ra R rc v P (· < w.heap.size)) (k : Chg (fun _ => False) w W) : Yq W ra R rc v P (· < W.heap.size) :=
 ⟨(h.rules.chg k (fun _ _ e => e)).imp (fun _ hj => Nat.lt_of_lt_of_le hj k.size), h.nil, h.many, h.size, (h.certs.chg k (fun _ _ e => e)).up (fun _ hj => Nat.lt_of_lt_of_le hj k.size), h.few, fun _ hj => hj⟩
theorem zmG (w : World) (a : ByteArray) (hs : a.size <= 100) : zu (w.alloc (.cells #[.string a] 57)) (.slice (some ⟨w.heap.size, 0, none⟩) 1 1) (· < (w.alloc (.cells #[.string a] 57)).heap.size) [a] :=
 (zbh w a hs).at_.up (fun k hk => by rw [hk, World.size_alloc]; omega)
theorem zhi {w : World} {ba : Nat} {a0 a1 a2 a3 a4 a5 : Value} {x : ByteArray} (ho : w.heap[ba]? = some (.cells #[a0, a1, a2, a3, a4, a5] 28 (0, 0))) (hx : x.size <= 100) (W : World) (hW : W = (w.alloc (.cells #[.string x] 57)).setCell ⟨ba, 4, none⟩ (.slice (some ⟨w.heap.size, 0, none⟩) 1 1)) :
  W.heap[ba]? = some (.cells #[a0, a1, a2, a3, .slice (some ⟨w.heap.size, 0, none⟩) 1 1, a5] 28 (0, 0)) ∧ Chg (fun j => j = ba) w W ∧ zu W (.slice (some ⟨w.heap.size, 0, none⟩) 1 1) (· < W.heap.size) [x] := by
 subst hW;have ka := zh (fun _ => False) w (.cells #[.string x] 57);have hl := zq ho;have kc := zE (w.alloc (.cells #[.string x] 57)) ba 4 (.slice (some ⟨w.heap.size, 0, none⟩) 1 1);refine ⟨zr (o := 4) (ka.obj (fun e => e) ho) _, (ka.mono (fun _ _ e => e.elim)).trans kc, ?_⟩;refine ((zbh w x hx).at_.chg kc (fun k hk e => by omega)).up (fun k hk => ?_);have := kc.size;rw [World.size_alloc] at this;omega
set_option maxHeartbeats 8000000 in
set_option maxRecDepth 100000 in
theorem zhh (w : World) : Calls Tryz.prog 9 #[] w fun e w' => e = .returned (.bool true) ∧ Chg (fun _ => False) w w' := by
 obtain ⟨y, hy⟩ : ∃ y, y = n17 := ⟨_, rfl⟩;obtain ⟨x1, hx1⟩ : ∃ y, y = k17 1 := ⟨_, rfl⟩;obtain ⟨x2, hx2⟩ : ∃ y, y = k17 2 := ⟨_, rfl⟩;obtain ⟨x3, hx3⟩ : ∃ y, y = k17 3 := ⟨_, rfl⟩;obtain ⟨zy, z1, z2, z3⟩ : y.size <= 100 ∧ x1.size <= 100 ∧ x2.size <= 100 ∧ x3.size <= 100 := by subst hy hx1 hx2 hx3; decide +kernel
 obtain ⟨CC, hCC⟩ : ∃ CC : List zn, CC = [⟨6, 8193, x2, [y], 0, 0, 0⟩] := ⟨_, rfl⟩;have EE := zb (show zcl [(y, x1)] CC [(0, [y])] 0 [x2] 9 = (1, ⟨0, [0], [zkN]⟩, 0) by subst hCC hy hx1 hx2; exact znW);have EZ := zb (show zcl [(y, x1)] CC [(0, [y])] 0 [y] 1 = (1, ⟨0, [0], [⟨[], []⟩]⟩, 0) by subst hCC hy hx1 hx2; exact znT);have D1 := zb (show xH [(y, x1)] CC [(0, [y])] 0 [x2] 9 = (0, ⟨1, 0, false, zje.rules⟩) by subst hCC hy hx1 hx2; exact zmt);have D3 := zb (show xH [(y, x1)] CC [(0, [y])] 0 [x3] 9 = (0, ⟨0, -1, false, zje.rules⟩) by subst hCC hy hx1 hx2 hx3; exact zno);have DO := zb (show xH [(y, x1)] CC [(0, [y])] 0 [x3] 1 = (0, ⟨2, 0, false, []⟩) by subst hCC hy hx1 hx2 hx3; exact znU);have C1 := zb (show zeU [(y, x1)] CC [(0, [y])] 0 [x2] zdG = 0 by subst hCC hy hx1 hx2; exact znX);have C3 := zb (show zeU [(y, x1)] CC [(0, [y])] 0 [x3] zdG = 13 by subst hCC hy hx1 hx2 hx3; exact znp);have O1 := zb (zj5 w 24577 24577 rfl y (by decide) (by rw [hy]; rfl));have KW1 := zb (fun w => zaZ w 1 1 rfl x1 (by decide) (by rw [hx1]; rfl));have KW2 := zb (fun w => zaZ w 2 2 rfl x2 (by decide) (by rw [hx2]; rfl));have KW3 := zb (fun w => zaZ w 3 3 rfl x3 (by decide) (by rw [hx3]; rfl));clear hy hx1 hx2 hx3;have e1 : ∀ args w, (callFunc 29 args).run Tryz.prog w = .ok (.enter 29 args) w := enters_of Tryz.func29 (by kernel_rfl) rfl;go_enter Tryz.func9, Tryz.ntmps9;go_wp2_with fail;(with_reducible refine O1.out.mono ?_);rintro e w1 ⟨rfl, k1⟩;have K1 := zb k1;clear k1 O1;go_wp2_with fail;(with_reducible refine (KW1.out _).mono ?_);rintro e w2 ⟨rfl, k2⟩;have K2 := zb (K1.out.trans k2);clear k2 K1;go_wp2_with fail;have kr := zh (fun _ => False) w2 (.cells #[.string y, .string x1] 66);have OR3 := zb (show (w2.alloc (.cells #[.string y, .string x1] 66)).ownsRow w2.heap.size 66 2 (.slice (some ⟨w2.heap.size, 0, none⟩) 1 1) 1 (zw [(y, x1)]) from zj3 rfl (by decide));have K3 := zb (K2.out.trans kr);clear kr K2;generalize w2.alloc (.cells #[.string y, .string x1] 66) = w3 at *;generalize w2.heap.size = gr at *;(with_reducible refine (KW2.out _).mono ?_);rintro e w4 ⟨rfl, k4⟩;have K4 := zb (K3.out.trans k4);have OR4 := zb (zm OR3.out k4 (fun _ _ e => e));clear k4 K3 OR3;obtain ⟨w5, hw5⟩ : ∃ W, W = w4.alloc (.cells #[.string y] 57) := ⟨_, rfl⟩;obtain ⟨w6, hw6⟩ : ∃ W, W = w5.alloc (.cells #[.int .i64 6, .int .u16 8193, .string x2, .slice (some ⟨w4.heap.size, 0, none⟩) 1 1, .int .i64 0, .int .i64 0, .int .i64 0] 64) := ⟨_, rfl⟩;obtain ⟨w7, hw7⟩ : ∃ W, W = w6.alloc (.cells #[.string y] 57) := ⟨_, rfl⟩;obtain ⟨w8, hw8⟩ : ∃ W, W = w7.alloc (.cells #[.int .i64 0, .slice (some ⟨w6.heap.size, 0, none⟩) 1 1] 56) := ⟨_, rfl⟩;have s5 : w5.heap.size = w4.heap.size + 1 := by rw [hw5, World.size_alloc]
 have s6 : w6.heap.size = w4.heap.size + 1 + 1 := by rw [hw6, World.size_alloc, s5]
 have s7 : w7.heap.size = w4.heap.size + 1 + 1 + 1 := by rw [hw7, World.size_alloc, s6]
 have s8 : w8.heap.size = w4.heap.size + 1 + 1 + 1 + 1 := by rw [hw8, World.size_alloc, s7]
 have q5 : Chg (fun _ => False) w4 w5 := by rw [hw5]; exact zh _ _ _
 have q6 : Chg (fun _ => False) w5 w6 := by rw [hw6]; exact zh _ _ _
 have q7 : Chg (fun _ => False) w6 w7 := by rw [hw7]; exact zh _ _ _
 have q8 : Chg (fun _ => False) w7 w8 := by rw [hw8]; exact zh _ _ _
 obtain ⟨PP, hPP⟩ : ∃ PP : List (zn × Value), PP = [(⟨6, 8193, x2, [y], 0, 0, 0⟩, .slice (some ⟨w4.heap.size, 0, none⟩) 1 1)] := ⟨_, rfl⟩;have HCP : zj PP = CC := by subst hPP hCC; rfl
 have HPL : PP.length = 1 := by subst hPP; rfl
 have SA : Yo w8 (.slice (some ⟨w4.heap.size, 0, none⟩) 1 1) (· < w8.heap.size) [y] := by
  have := zbh w4 y zy;rw [<- hw5] at this;exact (this.chg (q6.trans (q7.trans q8)) (fun _ _ e => e)).up (fun k hk => by rw [hk]; omega)
 have SB : Yo w8 (.slice (some ⟨w6.heap.size, 0, none⟩) 1 1) (· < w8.heap.size) [y] := by
  have := zbh w6 y zy;rw [<- hw7] at this;exact (this.chg q8 (fun _ _ e => e)).up (fun k hk => by rw [hk]; omega)
 have CA : yb w8 (.slice (some ⟨w5.heap.size, 0, none⟩) 1 1) (· < w8.heap.size) PP := by
  have ow : w6.ownsRow w5.heap.size 64 7 (.slice (some ⟨w5.heap.size, 0, none⟩) 1 1) PP.length (Xq PP) := by rw [hw6]; subst hPP; exact zj3 rfl (by decide)
  have ow8 := zm ow (q7.trans q8) (fun _ _ e => e)
  have st : zdI w8 (· < w8.heap.size) PP := fun p hp => by
   rw [hPP, List.mem_singleton] at hp;subst hp;exact ⟨_, _, rfl, SA, by simp only; unfold maxLen; omega, by simp⟩
  exact (zha ow8 st).up (fun k hk => hk.elim id (fun e => (ow8.lt k e).2))
 have EA : Zu w8 (.slice (some ⟨w7.heap.size, 0, none⟩) 1 1) (· < w8.heap.size) [(0, [y])] := by
  refine zl0 ?_ SB (by omega);rw [hw8]; exact zf _ _
 have OR8 := zm OR4.out (q5.trans (q6.trans (q7.trans q8))) (fun _ _ e => e)
 have RA := zb (show Yq w8 (some ⟨gr, 0, none⟩) [(y, x1)] 1 (.slice (some ⟨w5.heap.size, 0, none⟩) 1 1) PP (· < w8.heap.size) from
  ⟨(Xn OR8 (fun r hr => by rw [List.mem_singleton] at hr; subst hr; unfold maxLen; simp only; omega)).imp (fun k hk => (OR8.lt k hk).2), (fun e => by cases e), (by simp), (fun _ r hr => by rw [List.mem_singleton] at hr; subst hr; simp only; omega), CA, (by rw [HPL]; omega), fun k hk => hk⟩)
 have ENT := zb EA;have K8 := zb (K4.out.trans (q5.trans (q6.trans (q7.trans q8))));have HCPH := zb HCP;have HPLH := zb HPL;rw [s5] at RA;rw [s7] at ENT;rw [s6, hw7, hw6, hw5] at hw8;clear hPP hCC OR4 OR8 CA EA SA SB HCP HPL q5 q6 q7 q8 K4 s5 s6 s7 s8;have HW8 := zb hw8;clear hw8 hw5 hw6 hw7;go_wp2_with fail;rw [<- HW8.out];clear HW8;generalize w4.heap.size + 1 + 1 + 1 = be at *;generalize w4.heap.size + 1 = bc at *
 have ASK := zb (fun W (k : Chg (fun _ => False) w8 W) cv c (hc : zu W cv (· < W.heap.size) c) => show zeS W (some ⟨gr, 0, none⟩) [(y, x1)] 1 (.slice (some ⟨bc, 0, none⟩) 1 1) (.slice (some ⟨be, 0, none⟩) 1 1) cv PP [(0, [y])] c (· < W.heap.size) from
  ⟨zdP RA.out k, (ENT.out.chg k (fun _ _ e => e)).up (fun _ hj => Nat.lt_of_lt_of_le hj k.size), by simp, hc⟩)
 have DEC := zb (fun W (k : Chg (fun _ => False) w8 W) cv c b q (hc : zu W cv (· < W.heap.size) c) (hq : xH [(y, x1)] CC [(0, [y])] 0 c b = q) => show Calls Tryz.prog 11 #[.agg #[.slice (some ⟨gr, 0, none⟩) 1 1, .slice (some ⟨bc, 0, none⟩) 1 1, .slice (some ⟨be, 0, none⟩) 1 1, .int .i64 0, cv, .int .i64 b]] W (fun e w' => e = .returned (.tuple #[.int .i64 q.2.ans, .int .i64 q.1]) ∧ Chg (fun _ => False) W w') from by
  have := zmh W (some ⟨gr, 0, none⟩) [(y, x1)] 1 _ _ cv PP [(0, [y])] 0 c b _ (ASK.out W k cv c hc);rw [HCPH.out, hq] at this;exact this)
 have EXP := zb (fun W (k : Chg (fun _ => False) w8 W) cv c b q (hc : zu W cv (· < W.heap.size) c) (hq : zcl [(y, x1)] CC [(0, [y])] 0 c b = q) => show Calls Tryz.prog 13 #[.agg #[.slice (some ⟨gr, 0, none⟩) 1 1, .slice (some ⟨bc, 0, none⟩) 1 1, .slice (some ⟨be, 0, none⟩) 1 1, .int .i64 0, cv, .int .i64 b]] W (zlc W q) from by
  have := zmg W (some ⟨gr, 0, none⟩) [(y, x1)] 1 _ _ cv PP [(0, [y])] 0 c b _ (ASK.out W k cv c hc);rw [HCPH.out, hq] at this;exact this)
 have CHK := zb (fun W (k : Chg (fun _ => False) w8 W) cv c q tv pv (hc : zu W cv (· < W.heap.size) c) (hw : zbC W tv pv (· < W.heap.size) zdG) (hq : zeU [(y, x1)] CC [(0, [y])] 0 c zdG = q) => show Calls Tryz.prog 18 #[.slice (some ⟨gr, 0, none⟩) 1 1, .slice (some ⟨bc, 0, none⟩) 1 1, .slice (some ⟨be, 0, none⟩) 1 1, .int .i64 0, cv, .agg #[.int .i64 0, tv, pv]] W (fun e w' => e = .returned (.int .i64 q) ∧ Chg (fun _ => False) W w') from by
  have R := zdP RA.out k
  have := zdL W (some ⟨gr, 0, none⟩) [(y, x1)] 1 _ _ cv tv pv PP [(0, [y])] 0 c zdG _ _ ⟨R.rules, R.nil, by simp, R.certs, R.few⟩ (ASK.out W k cv c hc).ents (by simp) hc hw ⟨fun p hp => by
   have e : p = zkN := by simpa [zdG] using hp
   rw [e]; decide⟩
  rw [HCPH.out, hq] at this;exact this)
 clear RA ENT HCPH HPLH ASK;(with_reducible refine (KW2.out _).mono ?_);rintro e w9 ⟨rfl, k9⟩;have SC := zmG w9 x2 z2;have ka := zh (fun _ => False) w9 (.cells #[.string x2] 57);have SCH := zb SC;have KA := zb (k9.trans ka);have hg : w9.heap.size < (w9.alloc (.cells #[.string x2] 57)).heap.size := by rw [World.size_alloc]; omega
 have eg : (w9.alloc (.cells #[.string x2] 57)).heap.size = w9.heap.size + 1 := World.size_alloc _ _;have kb := zh (fun _ => False) (w9.alloc (.cells #[.string x2] 57)) (.cells #[.slice (some ⟨gr, 0, none⟩) 1 1, .slice (some ⟨bc, 0, none⟩) 1 1, .slice (some ⟨be, 0, none⟩) 1 1, .int .i64 0, .slice (some ⟨w9.heap.size, 0, none⟩) 1 1, .int .i64 9] 28);have oa := zf (w9.alloc (.cells #[.string x2] 57)) (.cells #[.slice (some ⟨gr, 0, none⟩) 1 1, .slice (some ⟨bc, 0, none⟩) 1 1, .slice (some ⟨be, 0, none⟩) 1 1, .int .i64 0, .slice (some ⟨w9.heap.size, 0, none⟩) 1 1, .int .i64 9] 28);rw [eg] at oa;have OA := zb oa;have SC11 := zb ((SC.chg kb (fun _ _ e => e)).up (fun j hj => Nat.lt_of_lt_of_le hj kb.size));have K11 := zb (KA.out.trans kb);have A8 := zb (show w8.heap.size <= w9.heap.size + 1 from by have := k9.size; omega);clear KW2 SC ka SCH KA kb oa eg k9 hg;go_wp2_with fail;generalize (w9.alloc (.cells #[.string x2] 57)).alloc (.cells #[.slice (some ⟨gr, 0, none⟩) 1 1, .slice (some ⟨bc, 0, none⟩) 1 1, .slice (some ⟨be, 0, none⟩) 1 1, .int .i64 0, .slice (some ⟨w9.heap.size, 0, none⟩) 1 1, .int .i64 9] 28) = w11 at *;generalize w9.heap.size + 1 = ba at *;generalize w9.heap.size = g9 at *;have X := zb (EXP.out w11 K11.out _ [x2] 9 _ SC11.out EE.out);(with_reducible refine X.out.mono ?_);rintro e w12 ⟨k12, tv, pv, rfl, hy⟩;clear X EE;have HY := zb hy;obtain ⟨ta, tc, e1', _, _⟩ := hy.ways;have e1' : tv = .slice ta 1 tc := e1';subst e1';obtain ⟨qa, qc, e2, _, hps⟩ := hy.proofs;have e2 : pv = .slice qa 1 qc := e2;subst e2;obtain ⟨lb, lo, iv, sv, rfl, hlb, _, p1, hpp⟩ := hps 0 zkN rfl;obtain ⟨s1, s3, e3⟩ := hpp.steps.shape;have e3 : sv = .slice s1 1 s3 := e3;subst e3;have hba : ba < w11.heap.size := zq OA.out;have kb := zh (fun _ => False) w12 (.cells #[.int .i64 0, .slice ta 1 tc, .slice (some ⟨lb, lo, none⟩) 1 qc] 39);have ob := zf w12 (.cells #[.int .i64 0, .slice ta 1 tc, .slice (some ⟨lb, lo, none⟩) 1 qc] 39);have OA13 := zb ((k12.trans kb).obj (fun e => e) OA.out);have SC13 := zb ((SC11.out.chg (k12.trans kb) (fun _ _ e => e)).up (fun j hj => Nat.lt_of_lt_of_le hj (k12.trans kb).size));have K13 := zb (K11.out.trans (k12.trans kb));have HY13 := zb ((HY.out.chg kb (fun _ _ e => e)).up (fun j hj => Nat.lt_of_lt_of_le hj.2 kb.size));have hb5 : ba < w12.heap.size := Nat.lt_of_lt_of_le hba k12.size;have hlb5 : ba < lb := Nat.lt_of_lt_of_le hba hlb.1
 have FY := zb (fun (W : World) (k : Chg (fun j => j = ba) (w12.alloc (.cells #[.int .i64 0, .slice ta 1 tc, .slice (some ⟨lb, lo, none⟩) 1 qc] 39)) W) =>
  And.intro (show W.heap[w12.heap.size]? = some (.cells #[.int .i64 0, .slice ta 1 tc, .slice (some ⟨lb, lo, none⟩) 1 qc] 39 (0, 0)) from k.obj (fun e => by omega) ob)
   (And.intro (show W.cell? ⟨lb, lo + 1, none⟩ = some (.slice s1 1 s3) from zi k (fun e => by omega) (zi kb (fun e => e) (by simpa using p1)))
    (show zbC W (.slice ta 1 tc) (.slice (some ⟨lb, lo, none⟩) 1 qc) (· < W.heap.size) zdG from ((HY.out.chg kb (fun _ _ e => e)).chg k (fun j hj e => by have := hj.1; omega)).up (fun j hj => Nat.lt_of_lt_of_le hj.2 (Nat.le_trans kb.size k.size)))))
 have AW := zb (show ba < (w12.alloc (.cells #[.int .i64 0, .slice ta 1 tc, .slice (some ⟨lb, lo, none⟩) 1 qc] 39)).heap.size from by have := kb.size; omega);obtain ⟨c0, c1, c2, c3, c4, c5⟩ := zcg OA13.out;clear hy hps hpp p1 kb ob k12 OA SC11 K11 HY HY13 hba hb5 hlb5 hlb;go_wp2_with fail;generalize w12.alloc (.cells #[.int .i64 0, .slice ta 1 tc, .slice (some ⟨lb, lo, none⟩) 1 qc] 39) = w13 at *;generalize w12.heap.size = b5 at *;have X := zb (DEC.out w13 K13.out _ [x2] 9 _ SC13.out D1.out);(with_reducible refine X.out.mono ?_);rintro e w14 ⟨rfl, k14⟩;have OA14 := zb (k14.obj (fun e => e) OA13.out);have SC14 := zb ((SC13.out.chg k14 (fun _ _ e => e)).up (fun j hj => Nat.lt_of_lt_of_le hj k14.size));have K14 := zb (K13.out.trans k14);have B14 := zb (show Chg (fun j => j = ba) w13 w14 from k14.mono (fun _ _ e => e.elim));clear X D1 k14 c0 c1 c2 c3 c4 c5 OA13 SC13 K13;obtain ⟨c0, c1, c2, c3, c4, c5⟩ := zcg OA14.out;obtain ⟨fy, fs, fw⟩ := FY.out w14 B14.out;have y0 := ze (o := 0) fy rfl;have y1 := ze (o := 1) fy rfl;have y2 := ze (o := 2) fy rfl;have X := zb (CHK.out w14 K14.out _ [x2] _ _ _ SC14.out fw C1.out);clear fy fs fw C1;go_wp2_with fail;(with_reducible refine X.out.mono ?_);rintro e w15 ⟨rfl, k15⟩;have OA15 := zb (k15.obj (fun e => e) OA14.out);have K15 := zb (K14.out.trans k15);have B15 := zb (show Chg (fun j => j = ba) w13 w15 from B14.out.trans (k15.mono (fun _ _ e => e.elim)));clear X k15 c0 c1 c2 c3 c4 c5 y0 y1 y2 OA14 SC14 K14 B14;go_wp2_with fail;(with_reducible refine (KW3.out _).mono ?_);rintro e w16 ⟨rfl, k16⟩;have O16 := zb (k16.obj (fun e => e) OA15.out);have K16 := zb (K15.out.trans k16);have B16 := zb (show Chg (fun j => j = ba) w13 w16 from B15.out.trans (k16.mono (fun _ _ e => e.elim)));clear k16 OA15 K15 B15;have ka := zh (fun _ => False) w16 (.cells #[.string x3] 57);have oa := ka.obj (fun e => e) O16.out;obtain ⟨c0, c1, c2, c3, c4, c5⟩ := zcg oa;have f4 := zk (o := 4) oa;go_wp2_with fail;obtain ⟨W, hW⟩ : ∃ W, W = (w16.alloc (.cells #[.string x3] 57)).setCell ⟨ba, 4, none⟩ (.slice (some ⟨w16.heap.size, 0, none⟩) 1 1) := ⟨_, rfl⟩;obtain ⟨o', k', s'⟩ := zhi O16.out z3 W hW;rw [<- hW];have O18 := zb o';have S18 := zb s';have K18 := zb (K16.out.next k' (fun k hk e => by have := A8.out; omega));have B18 := zb (B16.out.trans k');clear hW o' k' s' O16 K16 B16 ka oa c0 c1 c2 c3 c4 c5 f4;generalize w16.heap.size = g18 at *;generalize W = w18 at *;have X := zb (DEC.out w18 K18.out _ [x3] 9 _ S18.out D3.out);(with_reducible refine X.out.mono ?_);rintro e w19 ⟨rfl, k19⟩;have O19 := zb (k19.obj (fun e => e) O18.out);have S19 := zb ((S18.out.chg k19 (fun _ _ e => e)).up (fun j hj => Nat.lt_of_lt_of_le hj k19.size));have K19 := zb (K18.out.trans k19);have B19 := zb (B18.out.trans (k19.mono (T := fun j => j = ba) (fun _ _ e => e.elim)));clear X D3 k19 O18 S18 K18 B18;obtain ⟨c0, c1, c2, c3, c4, c5⟩ := zcg O19.out;obtain ⟨fy, fs, fw⟩ := FY.out w19 B19.out;have y0 := ze (o := 0) fy rfl;have y1 := ze (o := 1) fy rfl;have y2 := ze (o := 2) fy rfl;have X := zb (CHK.out w19 K19.out _ [x3] _ _ _ S19.out fw C3.out);clear fy fs fw C3;go_wp2_with fail;(with_reducible refine X.out.mono ?_);rintro e w20 ⟨rfl, k20⟩;have O20 := zb (k20.obj (fun e => e) O19.out);have K20 := zb (K19.out.trans k20);have B20 := zb (B19.out.trans (k20.mono (T := fun j => j = ba) (fun _ _ e => e.elim)));clear X k20 c0 c1 c2 c3 c4 c5 y0 y1 y2 O19 S19 K19 B19;have ka := zh (fun _ => False) w20 (.cells #[.string y] 57);have oa := ka.obj (fun e => e) O20.out;obtain ⟨c0, c1, c2, c3, c4, c5⟩ := zcg oa;have f4 := zk (o := 4) oa;have f5 := zk (o := 5) oa;go_wp2_with fail;obtain ⟨W, hW⟩ : ∃ W, W = (w20.alloc (.cells #[.string y] 57)).setCell ⟨ba, 4, none⟩ (.slice (some ⟨w20.heap.size, 0, none⟩) 1 1) := ⟨_, rfl⟩;obtain ⟨o', k', s'⟩ := zhi O20.out zy W hW;rw [<- hW];have kc := zE W ba 5 (.int .i64 1);have O23 := zb (zr (o := 5) o' (.int .i64 1))
 have S23 := zb (show zu (W.setCell ⟨ba, 5, none⟩ (.int .i64 1)) (.slice (some ⟨w20.heap.size, 0, none⟩) 1 1) (· < (W.setCell ⟨ba, 5, none⟩ (.int .i64 1)).heap.size) [y] from by
  subst hW;have kk := zE (w20.alloc (.cells #[.string y] 57)) ba 4 (.slice (some ⟨w20.heap.size, 0, none⟩) 1 1);have hl := zq O20.out;refine (((zbh w20 y zy).at_.chg kk (fun k hk e => by omega)).chg kc (fun k hk e => by omega)).up (fun k hk => ?_);have h1 := kk.size;have h2 := kc.size;rw [World.size_alloc] at h1;omega)
 have K23 := zb ((K20.out.next k' (fun k hk e => by have := A8.out; omega)).next kc (fun k hk e => by have := A8.out; omega));have B23 := zb ((B20.out.trans k').trans kc);clear hW o' k' s' kc O20 K20 B20 ka oa c0 c1 c2 c3 c4 c5 f4 f5;generalize w20.heap.size = g20 at *;generalize W.setCell ⟨ba, 5, none⟩ (.int .i64 1) = w23 at *;have X := zb (EXP.out w23 K23.out _ [y] 1 _ S23.out EZ.out);(with_reducible refine X.out.mono ?_);rintro e w24 ⟨k24, tv2, pv2, rfl, hy⟩;have HY := zb hy;obtain ⟨ta2, tc2, e1', _, _⟩ := hy.ways;have e1' : tv2 = .slice ta2 1 tc2 := e1';subst e1';obtain ⟨qa2, qc2, e2, _, hps⟩ := hy.proofs;have e2 : pv2 = .slice qa2 1 qc2 := e2;subst e2;obtain ⟨lb2, lo2, iv2, sv2, rfl, hlb, _, p1, hpp⟩ := hps 0 ⟨[], []⟩ rfl;obtain ⟨s4, s6, e3⟩ := hpp.steps.shape;have e3 : sv2 = .slice s4 0 s6 := e3;subst e3;have hba : ba < w23.heap.size := zq O23.out;have kb := zh (fun _ => False) w24 (.cells #[.int .i64 0, .slice ta2 1 tc2, .slice (some ⟨lb2, lo2, none⟩) 1 qc2] 39);have ob := zf w24 (.cells #[.int .i64 0, .slice ta2 1 tc2, .slice (some ⟨lb2, lo2, none⟩) 1 qc2] 39);have O25 := zb ((k24.trans kb).obj (fun e => e) O23.out);have K25 := zb (K23.out.trans (k24.trans kb));have B25 := zb (B23.out.trans ((k24.trans kb).mono (T := fun j => j = ba) (fun _ _ e => e.elim)));have hb5 : ba < w24.heap.size := Nat.lt_of_lt_of_le hba k24.size;have hlb5 : ba < lb2 := Nat.lt_of_lt_of_le hba hlb.1
 have FZ := zb (fun (W : World) (k : Chg (fun j => j = ba) (w24.alloc (.cells #[.int .i64 0, .slice ta2 1 tc2, .slice (some ⟨lb2, lo2, none⟩) 1 qc2] 39)) W) =>
  And.intro (show W.heap[w24.heap.size]? = some (.cells #[.int .i64 0, .slice ta2 1 tc2, .slice (some ⟨lb2, lo2, none⟩) 1 qc2] 39 (0, 0)) from k.obj (fun e => by omega) ob)
   (show W.cell? ⟨lb2, lo2 + 1, none⟩ = some (.slice s4 0 s6) from zi k (fun e => by omega) (zi kb (fun e => e) (by simpa using p1))))
 obtain ⟨c0, c1, c2, c3, c4, c5⟩ := zcg O25.out;clear X EZ hy hps hpp p1 kb ob k24 O23 S23 K23 B23 HY hba hb5 hlb5 hlb;go_wp2_with fail;clear c0 c1 c2 c3 c4 c5;generalize w24.alloc (.cells #[.int .i64 0, .slice ta2 1 tc2, .slice (some ⟨lb2, lo2, none⟩) 1 qc2] 39) = w25 at *;generalize w24.heap.size = b14 at *;(with_reducible refine (KW3.out _).mono ?_);rintro e w26 ⟨rfl, k26⟩;have O26 := zb (k26.obj (fun e => e) O25.out);have K26 := zb (K25.out.trans k26);have B26 := zb (B25.out.trans (k26.mono (T := fun j => j = ba) (fun _ _ e => e.elim)));have Z26 := zb (show Chg (fun j => j = ba) w25 w26 from k26.mono (fun _ _ e => e.elim));clear k26 O25 K25 B25;have ka := zh (fun _ => False) w26 (.cells #[.string x3] 57);have oa := ka.obj (fun e => e) O26.out;obtain ⟨c0, c1, c2, c3, c4, c5⟩ := zcg oa;have f4 := zk (o := 4) oa;go_wp2_with fail;obtain ⟨W, hW⟩ : ∃ W, W = (w26.alloc (.cells #[.string x3] 57)).setCell ⟨ba, 4, none⟩ (.slice (some ⟨w26.heap.size, 0, none⟩) 1 1) := ⟨_, rfl⟩;obtain ⟨o', k', s'⟩ := zhi O26.out z3 W hW;rw [<- hW];have S28 := zb s';have K28 := zb (K26.out.next k' (fun k hk e => by have := A8.out; omega));have B28 := zb (B26.out.trans k');have Z28 := zb (Z26.out.trans k');clear hW o' k' s' O26 K26 B26 Z26 ka oa c0 c1 c2 c3 c4 c5 f4;generalize w26.heap.size = g28 at *;generalize W = w28 at *;have X := zb (DEC.out w28 K28.out _ [x3] 1 _ S28.out DO.out);(with_reducible refine X.out.mono ?_);rintro e w29 ⟨rfl, k29⟩;have K29 := zb (K28.out.trans k29);obtain ⟨fy, fs, _⟩ := FY.out w29 (B28.out.trans (k29.mono (T := fun j => j = ba) (fun _ _ e => e.elim)));obtain ⟨fz, fs2⟩ := FZ.out w29 (Z28.out.trans (k29.mono (T := fun j => j = ba) (fun _ _ e => e.elim)));have y1 := ze (o := 1) fy rfl;have y2 := ze (o := 2) fy rfl;have w2 := ze (o := 2) fz rfl;clear X DO k29 S28 K28 B28 Z28 fy fz FY FZ DEC EXP CHK;go_wp2;go_ret;exact ⟨rfl, K8.out.trans K29.out⟩
theorem zjk.small {R : List zA} {C : List zn} {L : List zW} {c : List ByteArray} (h : zjk R C L c) (h4 : R.length <= 400) : ∀ r ∈ R, r.1.size <= 100 ∧ r.2.size <= 100 := by
 have := h.word;rwa [List.take_of_length_le (by omega)] at this
theorem zjk.ask {R : List zA} {P : List (zn × Value)} {L : List zW} {c : List ByteArray} (h : zjk R (zj P) L c) {w W : World} {xv : Value} {ra : Option Addr} {rc : Nat} {pv lv cv : Value} {op b : Int} (hx : zh9 w xv ra R rc pv lv cv P L op c b) (k : Chg (fun _ => False) w W) : zeS W ra R rc pv lv cv P L c (· < W.heap.size) :=
 ⟨⟨(hx.rules.at_.chg k (fun _ _ e => e)).imp (fun _ hj => Nat.lt_of_lt_of_le hj k.size), fun e => hx.rules.nil _ _ (by rw [e]), by have := hx.fit.2; omega, fun h4 r hr => by have := (h.small h4 r hr).1; omega, (hx.certs.at_.chg k (fun _ _ e => e)).up (fun _ hj => Nat.lt_of_lt_of_le hj k.size), by have := h.certs; rw [zO] at this; omega, fun _ hj => hj⟩,
  (hx.ents.chg k (fun _ _ e => e)).up (fun _ hj => Nat.lt_of_lt_of_le hj k.size), by have := h.ents; omega, (hx.set.at_.chg k (fun _ _ e => e)).up (fun _ hj => Nat.lt_of_lt_of_le hj k.size)⟩
theorem ziQ {w W : World} {xv : Value} {ra : Option Addr} {R : List zA} {rc : Nat} {pv lv cv : Value} {P : List (zn × Value)} {L : List zW} {op : Int} {c : List ByteArray} {b : Int} (hx : zh9 w xv ra R rc pv lv cv P L op c b) (k : Chg (fun _ => False) w W) : Calls Tryz.prog 10 #[.agg #[.slice ra R.length rc, pv, lv, .int .i64 op, cv, .int .i64 b]] W (zee W R (zj P) L c) :=
 zgZ W ra R rc pv lv cv P L op b c ((hx.rules.at_.chg k (fun _ _ e => e)).imp (fun _ hj => Nat.lt_of_lt_of_le hj k.size)) ((hx.certs.at_.chg k (fun _ _ e => e)).up (fun _ hj => Nat.lt_of_lt_of_le hj k.size)) ((hx.ents.chg k (fun _ _ e => e)).up (fun _ hj => Nat.lt_of_lt_of_le hj k.size)) ((hx.set.chg k (fun _ _ e => e)).up (fun _ hj => Nat.lt_of_lt_of_le hj k.size)) hx.up
end Go.Proofs.YthdfplafihmejaaGreat


namespace Go.Proofs.YthdfplafihmejaaGreat
open Go.ChangeShapes Go.WideShapes Go.ChangeAt Go.RowKit Go.Maps
section
variable {W : World} {H : Type} {enc : TypeId × Value -> H}
theorem zg2 {fuel : Nat} {cs : List Value} {x : DataW H × List MemPlace} (h : DataW.trod enc Tryz.prog W 0 (fun _ => true) true fuel 36 cs = some x) : ∃ v l, cs = [v] ∧ Yt W v (· < W.heap.size) l := by
 obtain ⟨v, I, e, hn, la, cap, hv, hl, hc⟩ := XQ Tryz.underlying36 Tryz.cellsInt (by decide) (α := Int) (E := fun y cs => cs = [.int .i64 y]) (fun n cs z hz => by
  obtain ⟨k, e0, _⟩ := DataW.trod_int Tryz.underlying3 hz;exact ⟨k, e0⟩) h
 refine ⟨v, I, e, ⟨la, cap, hv, hl, fun j r hj => ?_⟩⟩;obtain ⟨lb, lo, cs', e1, h1, e2, hq⟩ := hc j r hj;subst e2;have := hq 0 _ (by decide) rfl;exact ⟨lb, lo, e1, h1, by simpa using this⟩
theorem zer {fuel : Nat} {cs : List Value} {x : DataW H × List MemPlace} (h : DataW.trod enc Tryz.prog W 0 (fun _ => true) true fuel 37 cs = some x) : ∃ v l, cs = [v] ∧ Yr W v (· < W.heap.size) l ∧ ∀ p ∈ l, YI p := by
 obtain ⟨v, I, e, hn, la, cap, hv, hl, hc⟩ := XQ Tryz.underlying37 Tryz.cellsProof17 (by decide) (α := zS) (E := fun y cs => ∃ iv sv, cs = [iv, sv] ∧ yg W iv sv (· < W.heap.size) y ∧ YI y) (fun n cs z hz => by
  obtain ⟨iv, sv, p, e0, q1, q2⟩ := zlB hz;exact ⟨p, iv, sv, e0, q1, q2⟩) h
 refine ⟨v, I, e, ⟨la, cap, hv, hl, fun j r hj => ?_⟩, fun r hr => ?_⟩
 · obtain ⟨lb, lo, cs', e1, h1, ⟨iv, sv, e2, q2, _⟩, hq⟩ := hc j r hj
   subst e2;exact ⟨lb, lo, iv, sv, e1, h1, hq 0 _ (by decide) rfl, hq 1 _ (by decide) rfl, q2⟩
 · obtain ⟨j, hj⟩ := List.mem_iff_getElem?.1 hr
   obtain ⟨_, _, _, _, _, ⟨_, _, _, _, q⟩, _⟩ := hc j r hj;exact q
set_option maxRecDepth 100000 in
theorem znE {cs : Array Value} {d : DataW H} {ps : List MemPlace} (h : DataW.Trod enc Tryz.prog W 0 (fun _ => true) true 39 (.agg cs) d ps) : ∃ y, zmw W (.agg cs) y := by
 obtain ⟨fuel, hf⟩ := h;have hf' : DataW.trod enc Tryz.prog W 0 (fun _ => true) true fuel 39 cs.toList = some (d, ps) := hf;obtain ⟨xs, n, _, _, hl, hlen, hp⟩ := DataW.trod_struct Tryz.underlying39 hf';rw [Tryz.cellsWhy] at hl
 have hcs : ∃ c0 c1 c2, cs = #[c0, c1, c2] := by
  match cs, hl with
  | ⟨[c0, c1, c2]⟩, _ => exact ⟨c0, c1, c2, rfl⟩
 obtain ⟨c0, c1, c2, rfl⟩ := hcs
 match xs, hlen with
 | [y0, y1, y2], _ =>
 have t0 : DataW.trod enc Tryz.prog W 0 (fun _ => true) true n 3 [c0] = some y0 := hp 0 _ rfl;have t1 : DataW.trod enc Tryz.prog W 0 (fun _ => true) true n 36 [c1] = some y1 := hp 1 _ rfl;have t2 : DataW.trod enc Tryz.prog W 0 (fun _ => true) true n 37 [c2] = some y2 := hp 2 _ rfl;obtain ⟨k, e0, _, _⟩ := DataW.trod_int Tryz.underlying3 t0;obtain ⟨tv, l, e1, h1⟩ := zg2 t1;obtain ⟨pv, q, e2, h2, h3⟩ := zer t2;simp at e0 e1 e2;subst e0 e1 e2;exact ⟨⟨k, l, q⟩, _, _, rfl, ⟨h1, h2⟩, h3⟩
end
end Go.Proofs.YthdfplafihmejaaGreat
