/-
  UPlain: what else. URun: what else. The reference's Rules, Has and Backed. The reference's Backed. The reference's Run. UPlainZ: what else. TreeZ: what else. CMap: what else. URun: what else. URunZ: what else. QAt: what else. QCutP: what else. QChkP: what else. QReach: what else. QChkP: what else. QRRef: what else.
-/
import Derived.Test.YthdfplafihmejaaGreatZcUPlain
import Derived.Test.YthdfplafihmejaaGreatZcMRefsZY
import Derived.Test.YthdfplafihmejaaGreatZcUPlainY
import Derived.Test.YthdfplafihmejaaGreatZcURun
import Derived.Test.YthdfplafihmejaaGreatZcDCheckZ
import Derived.Test.YthdfplafihmejaaGreatZcAEnt
import Derived.Test.YthdfplafihmejaaGreatZcCLike
import Derived.Test.YthdfplafihmejaaGreatZcCSort
import Derived.Test.YthdfplafihmejaaGreatZcQAt
import Derived.Test.YthdfplafihmejaaGreatZcVPlain2
import Derived.Test.YthdfplafihmejaaGreatZcQReach
namespace Go.Proofs.YthdfplafihmejaaGreat
open Go.RowKit Go.Maps
set_option maxHeartbeats 2000000 in
set_option maxRecDepth 100000 in
theorem zit (w : World) (c : zn) (sa : Option Addr) (sc : Nat) (G : Nat -> Prop) (h : Yu w (.slice sa c.fr.length sc) G c) (hl : c.fr.length <= 1000) :
  Calls Tryz.prog 47 #[xf c (.slice sa c.fr.length sc)] w fun e w' => ∃ v, e = .returned v ∧ w'.ownsRow w.heap.size 66 2 v (ZE c).length (zw (ZE c)) ∧ Chg (fun _ => False) w w' := by
 have HS := zb h.set.at_;have SU := zb (fun k x => @zbv c k x);have LE := zb (fun k => @zah c k);have FIN := zb (show ZE c = yk c c.fr.length by unfold ZE yk; rw [List.take_length]);have Z := zb (show yk c 0 = [] by unfold yk; simp);rw [FIN.out];generalize yk c = T at *;obtain ⟨kind, sg, sp, fr, f, t, num⟩ := c;unfold xf;simp only at HS SU LE hl ⊢;clear h FIN;have OA := zb (zf w (.cells #[.int .i64 kind, .int .u16 (sg : Int), .string sp, .slice sa fr.length sc, .int .i64 f, .int .i64 t, .int .i64 num] 64));have KA := zb (zh (fun _ => False) w (.cells #[.int .i64 kind, .int .u16 (sg : Int), .string sp, .slice sa fr.length sc, .int .i64 f, .int .i64 t, .int .i64 num] 64));have hs1 : (w.alloc (.cells #[.int .i64 kind, .int .u16 (sg : Int), .string sp, .slice sa fr.length sc, .int .i64 f, .int .i64 t, .int .i64 num] 64)).heap.size = w.heap.size + 1 := World.size_alloc ..;go_enter Tryz.func47, Tryz.ntmps47;go_wp2;generalize hw1 : w.alloc (.cells #[.int .i64 kind, .int .u16 (sg : Int), .string sp, .slice sa fr.length sc, .int .i64 f, .int .i64 t, .int .i64 num] 64) = w1 at *;clear hw1;rw [<- hs1];have HS1 := zb hs1;clear hs1;have KE := zb (zh (fun _ => False) w1 (.cells #[] 66));go_loopw [3, 4] (fun v iv wr => ∃ k : Nat, k <= fr.length ∧ iv = .int .i64 k ∧ Hid (wr.ownsRow w1.heap.size 66 2 v (T k).length (zw (T k)) ∧ Chg (fun _ => False) w1 wr)) (fun _ iv _ => fr.length - (intOf iv).toNat)
 case atStart => exact ⟨0, by omega, rfl, zb ⟨by rw [Z.out]; exact ZK _ _ _ _ (Nat.le_refl _), KE.out⟩⟩
 case round =>
  obtain ⟨k, hk, rfl, HI⟩ := hrel;obtain ⟨ab, cb, eb⟩ := zl HI.out.1;subst eb;have HO := zb HI.out.1;have KC := zb HI.out.2;have tl : (T k).length <= 1000 := by rw [LE.out k hk]; omega
  have d2 := ze (o := 2) (KC.out.obj (fun e => e) OA.out) rfl;have d3 := ze (o := 3) (KC.out.obj (fun e => e) OA.out) rfl;clear HI;by_cases hlt : k < fr.length
  ·obtain ⟨x, hx⟩ : ∃ x, fr[k]? = some x := ⟨_, List.getElem?_eq_getElem hlt⟩
   obtain ⟨_, _, e1, _, hcl⟩ := HS.out.chg KA.out (fun _ _ e => e);cases e1;obtain ⟨lb, lo, rfl, _, x00, hxs⟩ := hcl k x hx;have x0 := zi KC.out (fun e => e) x00;have NX := zb (SU.out k x hx);have hb4 : w1.heap.size <= wr.heap.size := KC.out.size;have DD := zb (fun wd (q : Chg (fun _ => False) w1 wd) => And.intro (zi q (fun e => e) x00) (And.intro (zi q (fun e => e) (ze (o := 2) OA.out rfl)) (zi q (fun e => e) (ze (o := 3) OA.out rfl))));clear hcl hx x00;go_wp2_with fail;refine zB (N := 25) [.rd [0, 1, 2, 3, 4, 5, 6, 7, 8], .ef 9, .ef 10, .rd [11]] (fun W => W.cell? ⟨lb, lo + k, none⟩ = some (.string x) ∧ W.cell? ⟨w.heap.size, 2, none⟩ = some (.string sp) ∧ W.cell? ⟨w.heap.size, 3, none⟩ = some (.slice (some ⟨lb, lo, none⟩) fr.length sc)) (by kernel_rfl) (by kernel_rfl) (by kernel_rfl) (by kernel_rfl) (Nat.le_of_ble_eq_true rfl) ⟨x0, d2, d3⟩ ?_;refine zH (A := ?A1) ?h1 ?h2
   case h1 =>
    rintro w' ⟨z0, z2, z3⟩ K hK;simp only [zT, List.filterMap_cons, List.filterMap_nil, List.getElem?_toArray, List.getElem?_cons_succ, List.getElem?_cons_zero]
    repeat still_step
    refine wpStill_nil ?_;exact hK
   have KD := zb KC.out.drew;have OD := zb (zm HO.out (zK (fun _ => False) wr) (fun _ _ e => e));have hbd : w1.heap.size <= wr.drew.heap.size := KD.out.size;clear KC HO x0 d2 d3 hb4;generalize wr.drew = wd at *;have DDA := zb (DD.out _ (KD.out.alloc (.cells #[.string x, .string sp] 66)));refine zP rfl ?_;go_wp2_with fail;refine ⟨DDA.out, ?_⟩;refine zP rfl ?_;refine ZI rfl (.tmp 13) (.tmp 22) 22 rfl 66 2 32 Tryz.underlying22 Tryz.elemRule w1.heap.size _ _ _ rfl (OD.out.alloc _) _ [.string x, .string sp] 66 (0, 0) rfl (zf _ _) rfl ?a1 ?a2 ?a3 ?a4 ?a5
   case a1 => intro u hu; simp at hu; rcases hu with rfl | rfl <;> rfl
   case a2 => omega
   case a3 => unfold maxLen; omega
   case a4 => rw [World.size_alloc]; omega
   intro v5 w5 o5 g5;obtain ⟨a5, c5, rfl⟩ := zl o5;have kk := (zh (fun j => (Value.slice ab (T k).length cb).ownBlock = some j) wd (.cells #[.string x, .string sp] 66)).grown g5 (fun j hj _ => hj)
   have O5 := zb (show w5.ownsRow w1.heap.size 66 2 (.slice a5 ((T k).length + 1) c5) (T (k + 1)).length (zw (T (k + 1))) from by
    rw [NX.out, List.length_append, yS]; exact o5)
   have K5 := zb (show Chg (fun _ => False) w1 w5 from KD.out.next kk (fun j hj e => by have := (OD.out.lt j e).1; omega));have Z5 := DD.out w5 K5.out;clear kk o5 g5 OD KD;go_wp2_with fail;refine ⟨Z5, ?_⟩;refine zH (A := ?A2) ?h3 ?h4
   case h3 =>
    rintro w' ⟨z0, z2, z3⟩ K hK;simp only [zT, List.filterMap_cons, List.filterMap_nil, List.getElem?_toArray, List.getElem?_cons_succ, List.getElem?_cons_zero]
    repeat still_step
    refine wpStill_nil ?_;exact hK
   refine Zg ?_;go_wp2;go_roundw
   case rel =>
    exact ⟨k + 1, by omega, by go_num, zb ⟨O5.out, K5.out⟩⟩
   case measure => simp [intOf]; omega
  ·obtain rfl : k = fr.length := by omega
   go_wp2;go_ret;exact ⟨_, rfl, yA HO.out (by have := HS1.out; omega), KA.out.trans KC.out⟩
theorem znL (w : World) (k : Nat) (hk : k < 65536) : Calls Tryz.prog 30 #[.slice (some ⟨w.heap.size, 0, none⟩) 1 1] (w.alloc (.cells #[.int .u16 (k : Int)] 62)) fun e w' => e = .returned (.string (Zw k)) ∧ Chg (fun _ => False) w w' :=
 zj5 w k k rfl (Zw k) hk rfl
structure zeO (w : World) (base rb ro : Nat) (Rl : List zA) (Ol : List Nat) (oa ra : Option Addr) (oc rc : Nat) : Prop where
 obj : w.heap[rb]? = some (.cells #[.slice oa Ol.length oc, .slice ra Rl.length rc] 52 (0, 0))
 res : w.heap[ro]? = some (.cells #[.slice none 0 0, .slice none 0 0] 52 (0, 0))
 ord : w.ownsRow base 3 1 (.slice oa Ol.length oc) Ol.length (yP Ol)
 rul : w.ownsRow base 66 2 (.slice ra Rl.length rc) Rl.length (zw Rl)
 lo : base <= rb ∧ base <= ro ∧ rb ≠ ro
section
variable {w w' : World} {base rb ro : Nat} {Rl : List zA} {Ol : List Nat} {oa ra : Option Addr} {oc rc : Nat}
theorem zeO.chg0 (h : zeO w base rb ro Rl Ol oa ra oc rc) (hc : Chg (fun _ => False) w w') : zeO w' base rb ro Rl Ol oa ra oc rc :=
 ⟨hc.obj (fun e => e) h.obj, hc.obj (fun e => e) h.res, zm h.ord hc (fun _ _ e => e), zm h.rul hc (fun _ _ e => e), h.lo⟩
theorem zeO.push {S : Nat -> Prop} (h : zeO w base rb ro Rl Ol oa ra oc rc) {i : Nat} {a5 : Option Addr} {c5 : Nat} (o5 : w'.ownsRow base 3 1 (.slice a5 (Ol ++ [i]).length c5) (Ol ++ [i]).length (yP (Ol ++ [i]))) (hc : Chg S w w') (hS : ∀ k, S k -> (Value.slice oa Ol.length oc).ownBlock = some k) :
  zeO (w'.setCell ⟨rb, 0, none⟩ (.slice a5 (Ol ++ [i]).length c5)) base rb ro Rl (Ol ++ [i]) a5 ra c5 rc := by
 have key : ∀ {k cs t fz}, w.heap[k]? = some (.cells cs t fz) -> t ≠ 3 -> ¬ S k := fun hk ne q => YL h.ord hk ne (hS _ q);have ob := hc.obj (key h.obj (by decide)) h.obj;have kc := zE w' rb 0 (.slice a5 (Ol ++ [i]).length c5)
 have hr : w'.ownsRow base 66 2 (.slice ra Rl.length rc) Rl.length (zw Rl) := zm h.rul hc (fun k hk => by
  obtain ⟨cs, z⟩ := zz h.rul hk;exact key z (by decide))
 exact ⟨zr (o := 0) ob _, kc.obj (fun e => h.lo.2.2 e.symm) (hc.obj (key h.res (by decide)) h.res), zm o5 kc (fun k hk e => YL o5 ob (by decide) (e ▸ hk)), zm hr kc (fun k hk e => YL hr ob (by decide) (e ▸ hk)), h.lo⟩
theorem zeO.grow {S : Nat -> Prop} (h : zeO w base rb ro Rl Ol oa ra oc rc) {M : List zA} {a5 : Option Addr} {c5 : Nat} (o5 : w'.ownsRow base 66 2 (.slice a5 (Rl ++ M).length c5) (Rl ++ M).length (zw (Rl ++ M))) (hc : Chg S w w') (hS : ∀ k, S k -> (Value.slice ra Rl.length rc).ownBlock = some k) :
  zeO (w'.setCell ⟨rb, 1, none⟩ (.slice a5 (Rl ++ M).length c5)) base rb ro (Rl ++ M) Ol oa a5 oc c5 := by
 have key : ∀ {k cs t fz}, w.heap[k]? = some (.cells cs t fz) -> t ≠ 66 -> ¬ S k := fun hk ne q => YL h.rul hk ne (hS _ q);have ob := hc.obj (key h.obj (by decide)) h.obj;have kc := zE w' rb 1 (.slice a5 (Rl ++ M).length c5)
 have hr : w'.ownsRow base 3 1 (.slice oa Ol.length oc) Ol.length (yP Ol) := zm h.ord hc (fun k hk => by
  obtain ⟨cs, z⟩ := zz h.ord hk;exact key z (by decide))
 exact ⟨zr (o := 1) ob _, kc.obj (fun e => h.lo.2.2 e.symm) (hc.obj (key h.res (by decide)) h.res), zm hr kc (fun k hk e => YL hr ob (by decide) (e ▸ hk)), zm o5 kc (fun k hk e => YL o5 ob (by decide) (e ▸ hk)), h.lo⟩
end
def zoc (R : List zA) (C : List zn) (b : Int) (s : ASt) : Prop := ∃ f, Zj R C b = zis C b f s ∧ C.length < f + s.order.length
section
variable {R : List zA} {C : List zn} {b : Int} {s u : ASt}
theorem zoc.get (h : zoc R C b s) (hi : zaP R C b s) : ∃ f, Zj R C b = zis C b (f + 1) s ∧ C.length < f + 1 + s.order.length := by
 obtain ⟨f, e, hf⟩ := h;cases f with
 | zero => have := Yi hi.nd hi.lt; omega
 | succ f => exact ⟨f, e, hf⟩
theorem zoc.err {k : Int} (h : zoc R C b s) (hi : zaP R C b s) (hp : xA C b s C.length = .error k) : Zj R C b = .error k := by
 obtain ⟨f, e, hf⟩ := h.get hi;unfold zis at e;rwa [hp] at e
end
end Go.Proofs.YthdfplafihmejaaGreat

namespace Go.Proofs.YthdfplafihmejaaGreat
open Go.RowKit
section
variable {P : Program} {ops : Array Oper} {Q : Exit -> Act -> World -> Prop} {S : World -> Prop} {L : Nat}
theorem xY {w : World} {A : Act} : ∀ (l : List Oper) (a : Act), wpStill P ops w (· = A) l a -> A.tmps.size = a.tmps.size
  | [], a, h => by have : a = A := h; rw [this]
  | o :: l, a, h => by
    unfold wpStill at h;split at h
    · unfold Oper.still at h
      generalize (execOp a.eval o).run P w = res at h;cases res with
      | halt x w' => cases x <;> simp [Oper.stillUpon] at h
      | ok n w' =>
        cases n with
        | value v => have := xY l _ h.2; rwa [Zt] at this
        | skip => have := xY l _ h.2; rwa [Zt] at this
        | enter f args => obtain ⟨_, v, _, hv⟩ := h; have := xY l _ hv; rwa [Zt] at this
        | _ => simp [Oper.stillUpon] at h
    · have := xY l _ h; rwa [Zt] at this
theorem zbc {N : Nat} (hsel : Region.noSelect ops = true) : ∀ (pl : PT) (listed : Array Bool) (a : Act) (w : World), N <= a.tmps.size -> (S w ∨ pl = .nil) -> pl.okB ops N L listed = true ->
      xJ P ops S L Q pl a w -> XI P .any ops (NoPanic Q) S L pl.len listed a w
  | .nil, listed, a, w, _, _, hb, h => by
    simp only [PT.okB, List.isEmpty_iff] at hb;exact zcD (Q := NoPanic Q) hb h _
  | .rd is n, listed, a, w, hN, hS, hb, h => by
    have hS : S w := hS.resolve_right (by simp);simp only [PT.okB, Bool.and_eq_true] at hb;obtain ⟨A, h1, h2⟩ := h;have hA : A.tmps.size = a.tmps.size := xY _ _ (h1 w hS (· = A) rfl);have := zbc hsel n _ A w (by omega) (.inl hS) hb.2 h2;have := zaW (N := N) hsel hS is listed a hN hb.1.1.1 hb.1.1.2 hb.1.2 (fun w' hS' => h1 w' hS' (· = A) rfl) this;rw [show (PT.rd is n).len = n.len + is.length from Nat.add_comm _ _];exact this
  | .ef i n, listed, a, w, hN, _, hb, h => by
    simp only [PT.okB, Bool.and_eq_true, decide_eq_true_eq, beq_iff_eq, Bool.or_eq_true, Bool.not_eq_true', beq_eq_false_iff_ne] at hb;rw [show (PT.ef i n).len = n.len + 1 from Nat.add_comm _ _];refine zbG hb.1.1.1 (by simp) (fun j hj => ?_);simp at hj;subst hj;refine wpOp_mono (fun a' w' ⟨hs, hS', hp⟩ => ⟨hS', zbc hsel n _ a' w' (by omega) ?_ hb.2 hp⟩) (XG h);rcases hS' with e | e
    · refine .inr ?_
      rcases hb.1.2 with q | q
      · exact absurd e q
      · revert q; cases n <;> simp
    · exact .inl e
  | .two i j x y, listed, a, w, hN, _, hb, h => by
    simp only [PT.okB, Bool.and_eq_true, decide_eq_true_eq, beq_iff_eq] at hb;obtain ⟨⟨⟨⟨⟨⟨⟨b1, b2⟩, b3⟩, b4⟩, b5⟩, b6⟩, b7⟩, b8⟩ := hb;rw [show (PT.two i j x y).len = x.len + 1 from Nat.add_comm _ _];refine zbG b1 (by simp) (fun k hk => ?_);simp at hk;rcases hk with rfl | rfl
    · exact wpOp_mono (fun a' w' ⟨hs, hS', hp⟩ => ⟨.inr hS', zbc hsel x _ a' w' (by omega) (.inl hS') b7 hp⟩) (XG h.1)
    · rw [b6]
      exact wpOp_mono (fun a' w' ⟨hs, hS', hp⟩ => ⟨.inr hS', zbc hsel y _ a' w' (by omega) (.inl hS') b8 hp⟩) (XG h.2)
theorem zdr {id N : Nat} {l : List Oper} {a : Act} {w : World} (pl : PT) (L : Nat) (S : World -> Prop) (hm : P.follows .mixedOrders = true) (hsel : Region.noSelect l.toArray = true)
    (hlen : pl.len = l.toArray.size) (hb : pl.okB l.toArray N L (Array.replicate l.toArray.size false) = true) (hN : N <= a.tmps.size) (hS : S w.drew)
    (h : xJ P l.toArray S L Q pl a w.drew) : (Code.region id l.toArray true).wp P Q a w := by
  refine wp_region_noPanic (wp_region_any hm (zbF (S := S) (L := L) _ _ _ _ ?_));have := zbc hsel pl _ a w.drew hN (.inl hS) hb h;rw [hlen] at this; exact this
theorem zgt {i : Nat} {o : Oper} {K : Act -> World -> Prop} {a : Act} {w : World} (ho : ops[i]? = some o)
    (h : wpList P ops (zdn Q K) [o] a w) : wpOp P ops (NoPanic Q) i K a w := by
  unfold wpOp;rw [ho];dsimp only;unfold wpList at h
  have hq : ∀ e a w, e ≠ .normal -> zdn Q K e a w -> NoPanic Q e a w := by
    intro e a w he h;cases e <;> first | exact absurd rfl he | exact h | exact (h : False).elim
  split at h
  · rename_i hw
    rw [if_pos hw];refine h.imp (fun h => ?_) (fun ⟨h1, a, w, h2⟩ => ⟨h1, a, w, h2⟩);exact Oper.wp_mono (fun a w h => h) (zcC hq h)
  · rename_i hw
    rw [if_neg hw]; exact h
theorem XK {i : Nat} {o : Oper} {n : PT} {a : Act} {w : World} (ho : ops[i]? = some o)
    (h : wpList P ops (zdn Q (fun a' w' => (i = L ∨ S w') ∧ xJ P ops S L Q n a' w')) [o] a w) : xJ P ops S L Q (.ef i n) a w := zgt ho h
theorem zhr {i j : Nat} {o p : Oper} {x y : PT} {a : Act} {w : World} (ho : ops[i]? = some o) (hp : ops[j]? = some p)
    (h : wpList P ops (zdn Q (fun a' w' => S w' ∧ xJ P ops S L Q x a' w')) [o] a w) (h2 : wpList P ops (zdn Q (fun a' w' => S w' ∧ xJ P ops S L Q y a' w')) [p] a w) : xJ P ops S L Q (.two i j x y) a w := ⟨zgt ho h, zgt hp h2⟩
theorem zmL {is : List Nat} {n : PT} {a A : Act} {w : World} (h : ∀ w', S w' -> ∀ K : Act -> Prop, K A -> wpStill P ops w' K (zT ops is) a) (h2 : xJ P ops S L Q n A w) : xJ P ops S L Q (.rd is n) a w := ⟨A, h, h2⟩
theorem zll {a : Act} {w : World} (h : Q .normal a w) : xJ P ops S L Q .nil a w := h
end
open Go.Maps
section
variable {P : Program} {k e : TypeId} {w : World} {b r m cnt : Nat} {f : Lit -> Option Value} {left : Lit -> Bool}
theorem zbD.map (h : zbD P k w b r m f left cnt) : zdo P k w b m f := by
 obtain ⟨D, h, q⟩ := h;exact ⟨D, h.owns, q⟩
theorem zbD.lt (h : zbD P k w b r m f left cnt) : r < w.heap.size := by
 obtain ⟨D, h, q⟩ := h;exact h.lt
theorem zbD.chg {S : Nat -> Prop} {w' : World} (h : zbD P k w b r m f left cnt) (hc : Chg S w w') (hb : ¬ S b) (hr : ¬ S r) : zbD P k w' b r m f left cnt := by
 obtain ⟨D, h, q⟩ := h;obtain ⟨es, clock, since, seen, c0, h1, F, hs, hD, h2, rest⟩ := h;exact ⟨D, ⟨es, clock, since, seen, c0, hc.obj hb h1, F, hs, hD, hc.obj hr h2, rest⟩, q⟩
theorem zbD.ne_cells (h : zbD P k w b r m f left cnt) {g : Nat} {cs : Array Value} {t : TypeId} {fz : Nat × Nat} (hg : w.heap[g]? = some (.cells cs t fz)) : g ≠ r := by
 obtain ⟨D, h, q⟩ := h;obtain ⟨es, clock, since, seen, c0, h1, F, hs, hD, h2, rest⟩ := h;intro e;rw [e, h2] at hg;cases hg
end
end Go.Proofs.YthdfplafihmejaaGreat

namespace Go.Proofs.YthdfplafihmejaaGreat
open Go.RowKit Go.Maps
theorem zdI.chg {S : Nat -> Prop} {w w' : World} {G : Nat -> Prop} {P : List (zn × Value)} (h : zdI w G P) (hc : Chg S w w') (hs : ∀ k, G k -> ¬ S k) : zdI w' G P := fun p hp => by
  obtain ⟨sa, sc, e, q⟩ := h p hp;exact ⟨sa, sc, e, q.chg hc hs⟩
theorem zdI.up {w : World} {G G' : Nat -> Prop} {P : List (zn × Value)} (h : zdI w G P) (hg : ∀ k, G k -> G' k) : zdI w G' P := fun p hp => by
  obtain ⟨sa, sc, e, q⟩ := h p hp;exact ⟨sa, sc, e, q.up hg⟩
theorem zdI.one {w : World} {G : Nat -> Prop} {P : List (zn × Value)} (h : zdI w G P) : ∀ v ∈ Xq P, v.oneCell' = true := by
  intro v hv;unfold Xq at hv;obtain ⟨p, hp, hv⟩ := List.mem_flatMap.1 hv;obtain ⟨sa, sc, e, _⟩ := h p hp;simp only [zbn, List.mem_cons, List.not_mem_nil, or_false] at hv;rcases hv with rfl | rfl | rfl | rfl | rfl | rfl | rfl <;> first | rfl | (rw [e]; rfl)
theorem Yn.len {w : World} {v : Value} {G : Nat -> Prop} {L : zG} (h : Yn w v G L) : L.length <= 9223372036854775807 := by
 obtain ⟨_, _, _, h1, _⟩ := h.at_;unfold maxLen at h1;omega
open Go.ChangeShapes Go.WideShapes Go.ChangeAt
section
variable {W : World} {H : Type} {enc : TypeId × Value -> H}
theorem XQ {t e : TypeId} {fuel : Nat} {cs : List Value} {x : DataW H × List MemPlace} (ht : Tryz.prog.underlying t = some (.slice e)) {sz : Nat} (hc : Tryz.prog.cellsOf e = sz) (hpos : 0 < sz) {α : Type} [Inhabited α] {E : α -> List Value -> Prop}
  (hE : ∀ n cs y, DataW.trod enc Tryz.prog W 0 (fun _ => true) true n e cs = some y -> ∃ a, E a cs) (h : DataW.trod enc Tryz.prog W 0 (fun _ => true) true fuel t cs = some x) :
  ∃ (v : Value) (l : List α), cs = [v] ∧ (∀ n c, v = .slice none n c -> n = 0 ∧ c = 0) ∧ ∃ la cap, v = .slice la l.length cap ∧ l.length <= maxLen ∧ ∀ (j : Nat) a, l[j]? = some a -> ∃ lb lo cs', la = some ⟨lb, lo, none⟩ ∧ lb < W.heap.size ∧ E a cs' ∧ ∀ (q : Nat) u, q < sz -> cs'[q]? = some u -> W.cell? ⟨lb, lo + j * sz + q, none⟩ = some u := by
 rcases Deep.open_slice ht h with ⟨hcs, _⟩ | ⟨a, len, cap, m, k, D, Pl, hcs, _, hl, hm, hmm, hd, hel⟩
 ·exact ⟨_, [], hcs, (fun n c e => by cases e; exact ⟨rfl, rfl⟩), none, 0, rfl, by simp, fun j a hj => by simp at hj⟩
 ·simp at hmm
  obtain rfl : cap = m := hmm.symm;rw [hc] at hel
  have hv : ∀ i, i < cap -> ∃ v : α × List Value, W.cells? 0 (a.add (i * sz)) sz = some v.2 ∧ E v.1 v.2 := by
   intro i hi;obtain ⟨cs', h1, h2⟩ := hel i hi;obtain ⟨r, hr⟩ := hE _ _ _ h2;exact ⟨(r, cs'), h1, hr⟩
  obtain ⟨f, hf⟩ := Deep.choose_lt hv;refine ⟨_, (List.range len).map fun i => (f i).1, hcs, (fun n c e => by cases e), some a, cap, by simp, by simp; omega, fun j r hj => ?_⟩;rw [List.getElem?_map] at hj
  have hjn : j < len := by
   rcases Nat.lt_or_ge j len with h | h
   ·exact h
   ·rw [List.getElem?_eq_none (by simpa using h)] at hj; simp at hj
  rw [List.getElem?_range hjn] at hj;simp at hj;subst hj;obtain ⟨h1, h2⟩ := hf j (by omega);have g := (World.cells?_some h1).2.2;have g0 := (World.cells?_some (hf 0 (by omega)).1).2.2 0 hpos;obtain ⟨b, off, spot⟩ := a
  have hs : spot = none := by
   have hlen := (World.cells?_some (hf 0 (by omega)).1).2.1;rw [List.getElem?_eq_getElem (by omega)] at g0
   simpa [Addr.add] using World.cell?_spot g0
  subst hs;simp only [yn] at g g0;have hlen := (World.cells?_some (hf 0 (by omega)).1).2.1;rw [List.getElem?_eq_getElem (by omega)] at g0;exact ⟨b, off, _, rfl, World.block_lt_of_cell? W _ g0, h2, fun q u hq hu => by rw [g q hq]; exact hu⟩
set_option maxRecDepth 100000 in
theorem zjz {fuel : Nat} {cs : List Value} {x : DataW H × List MemPlace} (h : DataW.trod enc Tryz.prog W 0 (fun _ => true) true fuel 153 cs = some x) :
  ∃ r : Int × Int, cs = [.int .i64 r.1, .int .i64 r.2] ∧ zbE r.1 ∧ zbE r.2 := by
 obtain ⟨y0, y1, n, e, hl, t0, t1⟩ := zbb Tryz.underlying153 h;rw [Tryz.cellsStep] at hl
 match cs, hl with
 | [c0, c1], _ =>
  simp only [Tryz.cellsInt, List.drop_zero, List.drop_succ_cons, List.take_succ_cons, List.take_zero] at t0 t1;obtain ⟨s, e0, f0, hs⟩ := DataW.trod_int Tryz.underlying3 t0;obtain ⟨u, e1, f1, hu⟩ := DataW.trod_int Tryz.underlying3 t1;simp at e0 e1;subst e0 e1;exact ⟨(s, u), rfl, bounds_i64 hs, bounds_i64 hu⟩
theorem zb8 {fuel : Nat} {cs : List Value} {x : DataW H × List MemPlace} (h : DataW.trod enc Tryz.prog W 0 (fun _ => true) true fuel 81 cs = some x) :
  ∃ v l, cs = [v] ∧ Yn W v (· < W.heap.size) l ∧ yT l := by
 obtain ⟨v, l, e, hn, la, cap, hv, hl, hc⟩ := XQ Tryz.underlying81 Tryz.cellsStep (by decide) (α := Int × Int) (E := fun r cs => cs = [.int .i64 r.1, .int .i64 r.2] ∧ zbE r.1 ∧ zbE r.2) (fun n cs y hy => zjz hy) h;refine ⟨v, l, e, ⟨⟨la, cap, hv, hl, fun j r hj => ?_⟩, hn⟩, fun r hr => ?_⟩
 ·obtain ⟨lb, lo, cs', e1, h1, ⟨e2, _⟩, hq⟩ := hc j r hj
  subst e2;exact ⟨lb, lo, e1, h1, hq 0 _ (by decide) rfl, hq 1 _ (by decide) rfl⟩
 ·obtain ⟨j, hj⟩ := List.mem_iff_getElem?.1 hr
  obtain ⟨_, _, _, _, _, ⟨_, q⟩, _⟩ := hc j r hj;exact q
theorem zfl {fuel : Nat} {cs : List Value} {x : DataW H × List MemPlace} (h : DataW.trod enc Tryz.prog W 0 (fun _ => true) true fuel 96 cs = some x) :
  ∃ v P, cs = [v] ∧ yo W v (· < W.heap.size) P ∧ ∀ l ∈ P, yT l := by
 obtain ⟨v, P, e, hn, la, cap, hv, hl, hc⟩ := XQ Tryz.underlying96 Tryz.cellsSteps (by decide) (α := zG) (E := fun l cs => ∃ v, cs = [v] ∧ Yn W v (· < W.heap.size) l ∧ yT l) (fun n cs y hy => by
  obtain ⟨v, l, q⟩ := zb8 hy;exact ⟨l, v, q⟩) h
 refine ⟨v, P, e, ⟨la, cap, hv, hl, fun j r hj => ?_⟩, fun r hr => ?_⟩
 ·obtain ⟨lb, lo, cs', e1, h1, ⟨sv, e2, q2, _⟩, hq⟩ := hc j r hj
  subst e2;have := hq 0 _ (by decide) rfl;rw [Nat.mul_one, Nat.add_zero] at this;exact ⟨lb, lo, sv, e1, h1, this, q2⟩
 ·obtain ⟨j, hj⟩ := List.mem_iff_getElem?.1 hr
  obtain ⟨_, _, _, _, _, ⟨_, _, _, q⟩, _⟩ := hc j r hj;exact q
set_option maxRecDepth 100000 in
theorem znd {fuel : Nat} {cs : List Value} {x : DataW H × List MemPlace} (h : DataW.trod enc Tryz.prog W 0 (fun _ => true) true fuel 98 cs = some x) :
  ∃ (y : zF) (pv : Value), cs = [.int .i64 y.cert, pv] ∧ yo W pv (· < W.heap.size) y.paths ∧ zbE y.cert ∧ ∀ l ∈ y.paths, yT l := by
 obtain ⟨y0, y1, n, e, hl, t0, t1⟩ := zbb Tryz.underlying98 h;rw [Tryz.cellsItem] at hl
 match cs, hl with
 | [c0, c1], _ =>
  simp only [Tryz.cellsInt, Tryz.cellsPaths, List.drop_zero, List.drop_succ_cons, List.take_succ_cons, List.take_zero] at t0 t1;obtain ⟨s, e0, f0, hs⟩ := DataW.trod_int Tryz.underlying3 t0;obtain ⟨pv, P, e1, hp, hf⟩ := zfl t1;simp at e0 e1;subst e0 e1;exact ⟨⟨s, P⟩, _, rfl, hp, bounds_i64 hs, hf⟩
theorem zfD {fuel : Nat} {cs : List Value} {x : DataW H × List MemPlace} (h : DataW.trod enc Tryz.prog W 0 (fun _ => true) true fuel 80 cs = some x) :
  ∃ v I, cs = [v] ∧ Ys W v (· < W.heap.size) I ∧ ∀ y ∈ I, zbE y.cert ∧ ∀ l ∈ y.paths, yT l := by
 obtain ⟨v, I, e, hn, la, cap, hv, hl, hc⟩ := XQ Tryz.underlying80 Tryz.cellsItem (by decide) (α := zF) (E := fun y cs => ∃ pv, cs = [.int .i64 y.cert, pv] ∧ yo W pv (· < W.heap.size) y.paths ∧ zbE y.cert ∧ ∀ l ∈ y.paths, yT l) (fun n cs z hz => znd hz) h;refine ⟨v, I, e, ⟨la, cap, hv, hl, fun j r hj => ?_⟩, fun r hr => ?_⟩
 ·obtain ⟨lb, lo, cs', e1, h1, ⟨pv, e2, q2, _⟩, hq⟩ := hc j r hj
  subst e2;exact ⟨lb, lo, pv, e1, h1, hq 0 _ (by decide) rfl, hq 1 _ (by decide) rfl, q2⟩
 ·obtain ⟨j, hj⟩ := List.mem_iff_getElem?.1 hr
  obtain ⟨_, _, _, _, _, ⟨_, _, _, q⟩, _⟩ := hc j r hj;exact q
set_option maxRecDepth 100000 in
theorem zlB {fuel : Nat} {cs : List Value} {x : DataW H × List MemPlace} (h : DataW.trod enc Tryz.prog W 0 (fun _ => true) true fuel 83 cs = some x) :
  ∃ (iv sv : Value) (p : zS), cs = [iv, sv] ∧ yg W iv sv (· < W.heap.size) p ∧ YI p := by
 obtain ⟨y0, y1, n, e, hl, t0, t1⟩ := zbb Tryz.underlying83 h;rw [Tryz.cellsProof] at hl
 match cs, hl with
 | [c0, c1], _ =>
  simp only [Tryz.cellsItems, Tryz.cellsSteps, List.drop_zero, List.drop_succ_cons, List.take_succ_cons, List.take_zero] at t0 t1;obtain ⟨iv, I, e0, hi, hf⟩ := zfD t0;obtain ⟨sv, l, e1, hs, hg⟩ := zb8 t1;simp at e0 e1;subst e0 e1;exact ⟨_, _, ⟨I, l⟩, rfl, ⟨hi, hs⟩, ⟨hf, hg⟩⟩
end
theorem zfQ {C : List zn} {I : List zF} {q i : Nat} (hi : i <= I.length) (h1 : tot C I i <= q) (h2 : ∀ j, i < j -> j <= I.length -> q < tot C I j) : (zV C I).countP (fun b => decide (b <= q)) = i + 1 := by
 have e : zV C I = ym C I (i + 1) ++ (List.range' (i + 1) (I.length - i)).map (tot C I) := by
  unfold zV ym;rw [<- List.map_append, List.range_eq_range', List.range_eq_range']
  congr 1
  have := @List.range'_append_1 0 (i + 1) (I.length - i);rw [Nat.zero_add] at this;rw [this]
  congr 1
  omega
 rw [e, List.countP_append]
 have z : ((List.range' (i + 1) (I.length - i)).map (tot C I)).countP (fun b => decide (b <= q)) = 0 := by
  rw [List.countP_eq_zero];intro b hb;obtain ⟨j, hj, rfl⟩ := List.mem_map.1 hb;have hj2 := List.mem_range'_1.1 hj;have := h2 j (by omega) (by omega);simp;omega
 have y : (ym C I (i + 1)).countP (fun b => decide (b <= q)) = (ym C I (i + 1)).length := by
  rw [List.countP_eq_length];intro b hb;obtain ⟨j, hj, rfl⟩ := List.mem_map.1 hb;rw [List.mem_range] at hj;have := zcr C I (show j <= i by omega);simp;omega
 rw [z, y, Ym]
theorem znJ {roots : Int} {C : List zn} {I : List zF} {r : Int} {i : Nat} (hi : i < I.length) (h1 : roots + tot C I i <= r) (h2 : r < roots + tot C I (i + 1)) : XE roots (zV C I) r = some i := by
 unfold XE
 rw [if_neg (by omega), zfQ (i := i) (by omega) (by omega) (fun j hj _ => by
  have := zcr C I (show i + 1 <= j by omega);omega)]
 rfl
theorem zhs {C : List zn} {I : List zF} {q : Nat} : ∀ {k : Nat}, q < tot C I k -> ∃ i, i < k ∧ tot C I i <= q ∧ q < tot C I (i + 1)
 | 0, h => by rw [zcq] at h; omega
 | k + 1, h => by
  by_cases hk : q < tot C I k
  ·obtain ⟨i, h1, h2, h3⟩ := zhs hk
   exact ⟨i, by omega, h2, h3⟩
  ·exact ⟨k, by omega, by omega, h⟩
theorem zm3 {roots : Int} {C : List zn} {I : List zF} {r : Int} {i k : Nat} (hk : k <= I.length) (hr : r < roots + tot C I k) (h : XE roots (zV C I) r = some i) : i < k ∧ roots + tot C I i <= r ∧ r < roots + tot C I (i + 1) := by
 by_cases h0 : r < roots
 ·unfold XE at h
  rw [if_pos h0] at h;cases h
 obtain ⟨j, h1, h2, h3⟩ := zhs (C := C) (I := I) (q := (r - roots).toNat) (k := k) (by omega);have e := znJ (roots := roots) (C := C) (I := I) (r := r) (i := j) (by omega) (by omega) (by omega);rw [e] at h;cases h;exact ⟨h1, by omega, by omega⟩
section
variable {roots : Int} {C : List zn} {p : zS}
theorem xG.stands (h : xG roots C p) {k : Nat} {x : zF} (hx : p.items[k]? = some x) {l : zG} (hl : l ∈ x.paths) {s : Int × Int} (hs : s ∈ l) : 0 <= s.2 ∧ s.2 < roots + tot C p.items k := by
 have h1 := h.item k x hx;unfold zeD at h1;simp only [Bool.and_eq_true, List.all_eq_true] at h1;have h2 := h1.2.2 l hl;unfold yz at h2;have h3 := List.all_eq_true.1 h2 s hs;unfold xr at h3
 simpa using h3
theorem xG.cert (h : xG roots C p) {k : Nat} {x : zF} (hx : p.items[k]? = some x) : 0 <= x.cert ∧ x.cert < C.length := by
 have h1 := h.item k x hx;unfold zeD at h1;simp only [Bool.and_eq_true, decide_eq_true_eq] at h1;exact ⟨h1.1, h1.2.1⟩
theorem xG.ahead (h : xG roots C p) : zor roots (zV C p.items) p.items := fun k x i hx hu => by
 obtain ⟨l, hl, s, hs, ho⟩ := hu;exact (zm3 (Nat.le_of_lt (List.getElem?_eq_some_iff.1 hx).1) (h.stands hx hl hs).2 ho).1
end
end Go.Proofs.YthdfplafihmejaaGreat



namespace Go.Proofs.YthdfplafihmejaaGreat
open Go.RowKit Go.Maps
set_option maxHeartbeats 1000000 in
set_option maxRecDepth 100000 in
theorem zjK (w : World) (v lv : Value) (R : List zA) (L : List (Int × Int)) (s : ByteArray) (hv : zM w v (· < w.heap.size) R) (h47 : zf9 R) (hl : yw w lv (· < w.heap.size) L) (hL : ∀ x ∈ L, -9223372036854775808 <= x.1 ∧ x.1 <= 9223372036854775807) (hmay : Zm s.data.toList = true) :
    Calls Tryz.prog 74 #[v, .string s, lv] w fun e w' => e = .returned (zik (Yz (R.map Zo) s.data.toList L)) ∧ Chg (fun _ => False) w w' := by
  have HV := zb hv;have HL := zb hl;have HLI := zb hL;have H47 := zb h47;obtain ⟨la, cap, rfl, hl0, _⟩ := hv;obtain ⟨lb, lcap, rfl, hl1, _⟩ := hl;have hs8 := Zh hmay;have MAY := zb (zat w s (by omega));rw [hmay] at MAY;have HMAY := zb hmay;clear hmay hL h47;unfold maxLen at hl0 hl1;go_enter Tryz.func74, Tryz.ntmps74;go_wp2_with fail;(with_reducible refine MAY.out.mono ?_);rintro e w1 ⟨rfl, k1⟩;have K1 := zb k1;clear k1;go_wp2;go_loopw [1, 8] (fun sv iv wr => ∃ (u : ByteArray) (k : Nat), k <= L.length ∧ sv = .string u ∧ iv = .int .i64 k ∧ Hid (Yz (R.map Zo) s.data.toList (L.take k) = some u.data.toList ∧ Zm u.data.toList = true ∧ Chg (fun _ => False) w wr)) (fun _ iv _ => L.length - (intOf iv).toNat)
  case atStart => exact ⟨s, 0, by omega, rfl, rfl, zb ⟨rfl, HMAY.out, K1.out⟩⟩
  case round =>
    obtain ⟨u, k, hk, rfl, rfl, HI⟩ := hrel;have hu8 := Zh HI.out.2.1;by_cases hlt : k < L.length
    · obtain ⟨⟨xa, xk⟩, hx⟩ : ∃ x, L[k]? = some x := ⟨_, List.getElem?_eq_getElem hlt⟩
      have hlr := HL.out.chg HI.out.2.2 (fun _ _ e => e);obtain ⟨lb', lcap', e1, _, hcl⟩ := hlr;cases e1;obtain ⟨gb, go, rfl, hgb, c0, c1⟩ := hcl k _ hx;have USE := zb (zlt wr _ R u xa xk (zbk HV.out HI.out.2.2) H47.out HI.out.2.1 (HLI.out _ (List.mem_of_getElem? hx)))
      have TK := zb (show ∀ o, YP (R.map Zo) u.data.toList (xa, xk) = o -> Yz (R.map Zo) s.data.toList (L.take (k + 1)) = o from fun o ho => by
        rw [List.take_add_one, hx, Option.toList_some, zbJ, HI.out.1]; exact ho)
      have TN := zb (show YP (R.map Zo) u.data.toList (xa, xk) = none -> Yz (R.map Zo) s.data.toList L = none from fun ho => by
        have := Yy (R.map Zo) (L.take (k + 1)) (L.drop (k + 1)) s.data.toList (TK.out _ ho);rwa [List.take_append_drop] at this)
      have KR := zb HI.out.2.2;simp only at c0 c1;clear hcl hx;cases hst : YP (R.map Zo) u.data.toList (xa, xk) with
      | none =>
        have RES := zb (TN.out hst);rw [hst] at USE;unfold zoh at USE;simp only at USE;clear hst;go_wp2_with fail;(with_reducible refine USE.out.mono ?_);rintro e w3 ⟨rfl, k3⟩;go_wp2;go_ret2;exact ⟨by rw [RES.out]; rfl, KR.out.trans k3⟩
      | some uw =>
        have TKO := zb (TK.out _ hst);have SM := zb (zcN HI.out.2.1 hst);rw [hst] at USE;unfold zoh at USE;simp only at USE;clear hst;go_wp2_with fail;(with_reducible refine USE.out.mono ?_);rintro e w3 ⟨rfl, k3⟩;have K3 := zb (KR.out.trans k3);go_wp2;go_roundw
        case rel => exact ⟨_, k + 1, by omega, rfl, by go_num, zb ⟨by rw [TKO.out, yI], by rw [yI]; exact SM.out.1, K3.out⟩⟩
        case measure => simp [intOf]; omega
    · obtain rfl : k = L.length := by omega
      have RES := zb (show Yz (R.map Zo) s.data.toList L = some u.data.toList by have := HI.out.1; rwa [List.take_length] at this);go_wp2;go_ret2;exact ⟨by rw [RES.out]; unfold zik; simp only; rw [zhZ]; rfl, HI.out.2.2⟩
theorem zir (w : World) (la lv : Option Addr) (n c m d : Nat) (s : ByteArray) (hs : s.size <= 140737488355328) (h : Zm s.data.toList = false) :
    Calls Tryz.prog 74 #[.slice la n c, .string s, .slice lv m d] w fun e w' => e = .returned (.tuple #[.string ⟨#[]⟩, .int .i64 2]) ∧ Chg (fun _ => False) w w' := by
  have MAY := zb (zat w s hs);rw [h] at MAY;clear h;go_enter Tryz.func74, Tryz.ntmps74;go_wp2_with fail;(with_reducible refine MAY.out.mono ?_);rintro e w' ⟨rfl, kc⟩;go_wp2;go_ret2;exact ⟨rfl, kc⟩
theorem zcQ (w : World) (v sv : Value) (R : List zA) (l : zG) (x u : ByteArray) (hv : zM w v (· < w.heap.size) R) (h47 : zf9 R) (hl : yw w sv (· < w.heap.size) l) (hf : yT l) (hx : x.size <= 140737488355328) :
    Calls Tryz.prog 74 #[v, .string x, sv] w fun e w' => ∃ (s : ByteArray) (k : Int), e = .returned (.tuple #[.string s, .int .i64 k]) ∧ (ZA R x u l = true ↔ k = 0 ∧ s = u) ∧ Chg (fun _ => False) w w' := by
  unfold ZA;cases hm : Zm x.data.toList with
  | false =>
    obtain ⟨la, cap, rfl, _, _⟩ := hv;obtain ⟨ka, kc, rfl, _, _⟩ := hl;exact (zir w la ka R.length cap l.length kc x hx hm).mono fun e w' ⟨he, hc⟩ => ⟨_, _, he, ⟨fun q => (by cases q), fun q => (by cases q.1)⟩, hc⟩
  | true =>
    refine (zjK w v sv R l x hv h47 hl (fun y hy => (hf y hy).1) hm).mono fun e w' ⟨he, hc⟩ => ?_;cases hw : Yz (R.map Zo) x.data.toList l with
    | none =>
      rw [hw] at he;exact ⟨_, _, he, ⟨fun q => (by cases q), fun q => (by cases q.1)⟩, hc⟩
    | some y =>
      rw [hw] at he;refine ⟨_, _, he, ?_, hc⟩;simp only [Bool.true_and, decide_eq_true_eq];exact ⟨fun q => ⟨by first | trivial | rfl, q⟩, fun q => q.2⟩
end Go.Proofs.YthdfplafihmejaaGreat
