/-
  Maps whose elements are told as they lie there: lookups, stores, deletions, how many there are, ranges. Package set: Same; Of of two words. Package set: Of: words sorted, each once (slices.SortFunc and Compact by the shelf's contracts).
-/
import Derived.Test.YthdfplafihmejaaGreatZcKit2
import Derived.Maps.Own
import Derived.Maps.OwnOps
import Derived.Maps.OwnSet
import Derived.Maps.Views
import Derived.Maps.RangeWalk
import Derived.WalkSpells
import Derived.Test.YthdfplafihmejaaGreatZcCCert1
import Derived.Shelf.SlSortCmp.Whole1
import Derived.Shelf.SlicesE.Compact
import Derived.Shelf.SlGeneric
import Derived.Shelf.Lay
import Derived.Ground.SlsfProg
import Derived.Ground.SlgnProg
namespace Go.Proofs.YthdfplafihmejaaGreat
open Go.RowKit Go.Maps
def znB (v : Value) : Option (DataW Value × List MemPlace) := some (.held v, [])
def zk2 (D : DataW Value) (f : Lit -> Option Value) : Prop := ∀ kl, Maps.has D kl = (f kl).isSome ∧ ∀ v, f kl = some v -> ∀ z, D.atKey kl z = .held v
def zdo (P : Program) (k : TypeId) (w : World) (b m : Nat) (f : Lit -> Option Value) : Prop :=
 ∃ D : DataW Value, w.ownsMap P k znB b m D ∧ Maps.size D = m ∧ zk2 D f
open Classical in
noncomputable def zmo (f : Lit -> Option Value) (kl : Lit) (d : Option Value) : Lit -> Option Value := fun x => if x = kl then d else f x
theorem zcU (f : Lit -> Option Value) (kl : Lit) (d : Option Value) : zmo f kl d kl = d := if_pos rfl
theorem zbQ (f : Lit -> Option Value) {kl x : Lit} (h : x ≠ kl) (d : Option Value) : zmo f kl d x = f x := if_neg h
theorem zet {H : Type} {P : Program} {k : TypeId} {R : Value -> Option (DataW H × List MemPlace)} {w : World} {b n : Nat} {D : DataW H} (h : w.ownsMap P k R b n D) : w.ownsMap P k R b (Maps.size D) D := by
 obtain ⟨es, clock, hb, F, _, rfl⟩ := h;exact ⟨es, clock, hb, F, by simp [Maps.size, length_sorted], rfl⟩
theorem zls {D : DataW Value} {f : Lit -> Option Value} (q : zk2 D f) (kl : Lit) (z : Value) : D.atKey kl (.held z) = .held ((f kl).getD z) := by
 obtain ⟨h1, h2⟩ := q kl;cases hf : f kl with
 | none => rw [hf] at h1; exact atKey_of_not_has h1 _
 | some d => exact h2 d hf _
theorem zjG {D : DataW Value} {f : Lit -> Option Value} (q : zk2 D f) (hD : IsMap D) {kl : Lit} (hk : WideAt.IsKeyLit kl) (v : Value) : zk2 (D.put kl (.held v)) (zmo f kl (some v)) := by
 intro x;by_cases hx : x = kl
 ·subst hx
  rw [zcU];exact ⟨has_put_same hD hk _, fun d e z => by cases e; exact atKey_put_same hD hk _ z⟩
 ·rw [zbQ f hx, has_put_other hx]
  exact ⟨(q x).1, fun d e z => by rw [atKey_put_other hx]; exact (q x).2 d e z⟩
theorem zlz {v : Value} {d : Value} {ps : List MemPlace} (h : znB v = some (.held d, ps)) : v = d := by
 unfold znB at h;cases h; rfl
section
variable {P : Program} {k e : TypeId} {w : World} {b m : Nat} {f : Lit -> Option Value}
theorem zdo.made (P : Program) (k : TypeId) (w : World) : zdo P k (w.alloc (.map #[] 0)) w.heap.size 0 (fun _ => none) :=
 ⟨.map [], World.ownsMap_made w P k _, rfl, fun _ => ⟨rfl, fun d h => by cases h⟩⟩
theorem zdo.chg {S : Nat -> Prop} {w' : World} (h : zdo P k w b m f) (hc : Chg S w w') (hs : ¬ S b) : zdo P k w' b m f := by
 obtain ⟨D, ⟨es, clock, hh, r⟩, q⟩ := h;exact ⟨D, ⟨es, clock, hc.obj hs hh, r⟩, q⟩
theorem zdo.lt (h : zdo P k w b m f) : b < w.heap.size := by
 obtain ⟨D, h, q⟩ := h;exact h.lt
theorem zdo.ne_cells (h : zdo P k w b m f) {g : Nat} {cs : Array Value} {t : TypeId} {fz : Nat × Nat} (hg : w.heap[g]? = some (.cells cs t fz)) : g ≠ b := by
 obtain ⟨D, ⟨es, clock, hh, r⟩, q⟩ := h;intro e;rw [e, hh] at hg;cases hg
theorem zdo.put {t : TypeId} (h : zdo P k w b m f) (K : Keyed P k) (ht : P.underlying t = some (.map k e)) (hn : m < maxLen) {key val : Value} {kl : Lit} (hkey : keyOf P k key = some kl) :
  ∃ w', (Instr.mapUpdate t (.map (some b)) key val).run P w = .ok () w' ∧ zdo P k w' b (if (f kl).isSome = true then m else m + 1) (zmo f kl (some val)) ∧ Chg (· = b) w w' := by
 obtain ⟨D, h, hm, q⟩ := h;obtain ⟨w', hr, h1, h2⟩ := h.update K ht hn hkey (show znB val = some (.held val, []) from rfl)
 have hz : Maps.size (D.put kl (.held val)) = if (f kl).isSome = true then m else m + 1 := by
  rw [size_put (h.tidy K), hm, (q kl).1]
 refine ⟨w', hr, ⟨_, ?_, hz, zjG q h.isMap (K.key hkey) val⟩, (Chg.of_grown h2).mono (fun x _ e => by cases e; rfl)⟩;have := zet h1;rwa [hz] at this
end
section
variable {P : Program} {w : World} {ops : Array Oper} {rest : List Oper} {o : Oper} {a : Act} {Q : Exit -> Act -> World -> Prop}
theorem Yd (hg : o.guard = none) (m x : Operand) (t : TypeId) (hop : o.op = Op.lookup t m x true) (k e : TypeId) (K : Keyed P k) (ht : P.underlying t = some (.map k e)) (z : Value) (hz : (zeroValue e).run P w = .ok z w)
  (b n : Nat) (f : Lit -> Option Value) (hm : a.eval m = .map (some b)) (hown : zdo P k w b n f) (key : Value) (kl : Lit) (hx : a.eval x = key) (hkey : keyOf P k key = some kl)
  (v : Value) (r : Bool) (hv : (f kl).getD z = v) (hr : (f kl).isSome = r) (hK : wpList P ops Q rest (a.put o.dst (.tuple #[v, .bool r])) w) : wpList P ops Q (o :: rest) a w := by
 refine wpList_plain hg fun K' hK' => ?_;obtain ⟨D, h, _, q⟩ := hown;obtain ⟨v', ps, hrun, hv'⟩ := h.look_ok K ht hz (show znB z = some (.held z, []) from rfl) hkey;rw [zls q, hv] at hv';have hv' := zlz hv';subst hv';rw [(q kl).1, hr] at hrun;unfold Oper.wp;simp [execOp, hop, hm, hx, hrun, Result.andThen];exact hK' _ _ hK
theorem Xg (hg : o.guard = none) (m x v : Operand) (t : TypeId) (hop : o.op = Op.mapUpdate t m x v) (k e : TypeId) (K : Keyed P k) (ht : P.underlying t = some (.map k e)) (b n : Nat) (f : Lit -> Option Value)
  (hm : a.eval m = .map (some b)) (hown : zdo P k w b n f) (hn : n < maxLen) (key val : Value) (kl : Lit) (hx : a.eval x = key) (hv : a.eval v = val) (hkey : keyOf P k key = some kl)
  (hK : ∀ w' n', zdo P k w' b n' (zmo f kl (some val)) -> ((f kl).isSome = true -> n' = n) -> ((f kl).isSome = false -> n' = n + 1) -> n' <= n + 1 -> Chg (· = b) w w' -> wpList P ops Q rest (a.put o.dst undef) w') : wpList P ops Q (o :: rest) a w := by
 refine wpList_plain hg fun K' hK' => ?_;obtain ⟨w', hrun, r1, r2⟩ := hown.put (val := val) K ht hn hkey;unfold Oper.wp;simp [execOp, hop, hm, hx, hv, hrun, Result.andThen];refine hK' _ _ (hK w' _ r1 (fun h => by rw [if_pos h]) (fun h => by rw [h]; rfl) (by split <;> omega) r2)
end
def zbD (P : Program) (k : TypeId) (w : World) (b r m : Nat) (f : Lit -> Option Value) (left : Lit -> Bool) (cnt : Nat) : Prop :=
 ∃ D : DataW Value, w.ranges P k znB b r m D left cnt ∧ Maps.size D = m ∧ zk2 D f
theorem zmH : Keyed Tryz.prog 57 := string_keyed Tryz.underlying57
theorem zgm (s : ByteArray) (h : s.size <= maxLen) : keyOf Tryz.prog 57 (.string s) = some (.string s.data.toList) := WideMaps.keyOf_string_mk Tryz.underlying57 h
open Classical in
noncomputable def inF (l : List ByteArray) : Lit -> Option Value := fun kl => if ∃ s ∈ l, kl = .string s.data.toList then some (.agg #[]) else none
theorem Xe {a b : ByteArray} (h : a.data.toList = b.data.toList) : a = b := by
 cases a; cases b;simp only [ByteArray.mk.injEq];exact Array.toList_inj.1 h
theorem ziZ (l : List ByteArray) (s : ByteArray) : (inF l (.string s.data.toList)).isSome = zaM l s := by
 unfold inF zaM;by_cases h : s ∈ l
 ·rw [if_pos ⟨s, h, rfl⟩, decide_eq_true h]; rfl
 ·rw [if_neg, decide_eq_false h]
  ·rfl
  ·rintro ⟨u, hu, e⟩
   rw [Lit.string.injEq] at e;exact h (by rw [Xe e]; exact hu)
theorem znf : (fun _ => none) = inF [] := by
 funext kl
 unfold inF;rw [if_neg];rintro ⟨u, hu, _⟩;cases hu
theorem zne (l : List ByteArray) (s : ByteArray) : zmo (inF l) (.string s.data.toList) (some (.agg #[])) = inF (l ++ [s]) := by
 funext kl
 by_cases h : kl = .string s.data.toList
 ·subst h
  rw [zcU];unfold inF;rw [if_pos ⟨s, by simp, rfl⟩]
 ·rw [zbQ _ h]
  unfold inF;by_cases q : ∃ u ∈ l, kl = .string u.data.toList
  ·obtain ⟨u, hu, e⟩ := q
   rw [if_pos ⟨u, hu, e⟩, if_pos ⟨u, List.mem_append_left _ hu, e⟩]
  ·rw [if_neg q, if_neg]
   rintro ⟨u, hu, e⟩;rcases List.mem_append.1 hu with hu | hu
   ·exact q ⟨u, hu, e⟩
   ·rw [List.mem_singleton] at hu
    subst hu;exact h e
theorem zm9 (w : World) (n : Int) : (Instr.makeMap 201 (some (.int .i64 n))).run Tryz.prog w = .ok (.map (some w.heap.size)) (w.alloc (.map #[] 0)) := by
 have h : (asInt (.int .i64 n)).run Tryz.prog w = .ok n w := rfl;simp [Instr.makeMap, run_underlying Tryz.underlying201, h]
set_option maxHeartbeats 1000000 in
set_option maxRecDepth 100000 in
theorem zbH (w : World) (av bv : Value) (a b : List ByteArray) (G G' : Nat -> Prop) (ha : zu w av G a) (hb : zu w bv G' b) (hlb : b.length <= 1000) :
  Calls Tryz.prog 116 #[av, bv] w fun e w' => e = .returned (.bool (a.all (zaM b))) ∧ Chg (fun _ => False) w w' := by
 have HA := zb ha;have HB := zb hb;obtain ⟨aa, acap, rfl, hl0, _⟩ := ha;obtain ⟨ba, bcap, rfl, hl1, _⟩ := hb;unfold maxLen at hl0 hl1;go_enter Tryz.func116, Tryz.ntmps116;have M0 := zb (show zdo Tryz.prog 57 (w.alloc (.map #[] 0)) w.heap.size 0 (inF []) from by rw [<- znf]; exact zdo.made _ _ _);have hws : w.heap.size <= w.heap.size := Nat.le_refl _;have HZU := zb (fun w : World => (show (zeroValue 202).run Tryz.prog w = .ok (.agg #[]) w from by kernel_rfl));have hmk := zm9 w (b.length : Int);go_wp2;go_loopw [17] (fun iv wr => ∃ k : Nat, k <= b.length ∧ iv = .int .i64 k ∧ Hid ((∃ m, m <= k ∧ zdo Tryz.prog 57 wr w.heap.size m (inF (b.take k))) ∧ Chg (fun _ => False) w wr)) (fun iv _ => b.length - (intOf iv).toNat)
 case atStart => exact ⟨0, by omega, rfl, zb ⟨⟨0, Nat.le_refl _, M0.out⟩, zh _ _ _⟩⟩
 case round =>
  obtain ⟨k, hk, rfl, HI⟩ := hrel;clear M0;by_cases hlt : k < b.length
  ·obtain ⟨x, hx⟩ : ∃ x, b[k]? = some x := ⟨_, List.getElem?_eq_getElem hlt⟩
   obtain ⟨_, _, e1, _, hcl⟩ := HB.out.chg HI.out.2 (fun _ _ e => e);cases e1;obtain ⟨lb, lo, rfl, _, c0, hxs⟩ := hcl k x hx;obtain ⟨⟨m, hmk, hM⟩, hC⟩ := HI.out;have MV := zb hM;have KC := zb hC;have TK := zb (show b.take (k + 1) = b.take k ++ [x] by rw [List.take_add_one, hx]; rfl);have KEY := zb (zgm x hxs);clear hcl hx hM hC HI hxs;go_wp2_with (at_mapUpdate; refine Xg rfl (.tmp 21) (.tmp 22) (.tmp 23) 201 rfl 57 202 zmH Tryz.underlying201 w.heap.size m _ rfl MV.out ?c1 (.string x) (.agg #[]) (.string x.data.toList) rfl rfl KEY.out ?next)
   case c1 => unfold maxLen; omega
   case next =>
    intro w3 m3 hm3 _ _ hm3k hc3;rw [zne, <- TK.out] at hm3;have K3 := zb (KC.out.next hc3 (fun x hx e => by omega));have M3 := zb (show ∃ m, m <= k + 1 ∧ zdo Tryz.prog 57 w3 w.heap.size m (inF (b.take (k + 1))) from ⟨_, by omega, hm3⟩);clear hm3 hc3 MV KC c0;go_wp2;go_roundw
    case rel => exact ⟨k + 1, by omega, by go_num, zb ⟨M3.out, K3.out⟩⟩
    case measure => simp [intOf]; omega
  ·obtain rfl : k = b.length := by omega
   obtain ⟨⟨m, _, hM⟩, hC⟩ := HI.out;rw [List.take_length] at hM;have M2 := zb hM;have K2 := zb hC;clear HI hM hC;generalize wr = wo at *;go_wp2;go_loopw [27] (fun iv wr => ∃ k : Nat, k <= a.length ∧ iv = .int .i64 k ∧ Hid ((a.take k).all (zaM b) = true ∧ Chg (fun _ => False) wo wr)) (fun iv _ => a.length - (intOf iv).toNat)
   case atStart => exact ⟨0, by omega, rfl, zb ⟨rfl, Chg.refl _ _⟩⟩
   case round =>
    obtain ⟨k, hk, rfl, HI⟩ := hrel;by_cases hlt : k < a.length
    ·obtain ⟨x, hx⟩ : ∃ x, a[k]? = some x := ⟨_, List.getElem?_eq_getElem hlt⟩
     obtain ⟨_, _, e1, _, hcl⟩ := HA.out.chg (K2.out.trans HI.out.2) (fun _ _ e => e);cases e1;obtain ⟨lb, lo, rfl, _, c0, hxs⟩ := hcl k x hx;have MV := zb (M2.out.chg HI.out.2 (fun e => e));have KI := zb HI.out.2
     have AL := zb (show (a.take (k + 1)).all (zaM b) = zaM b x from by
      rw [List.take_add_one, hx, List.all_append, HI.out.1]; simp)
     have AF := zb (show zaM b x = false -> a.all (zaM b) = false from fun h => by
      rw [List.all_eq_false];exact ⟨x, List.mem_of_getElem? hx, by rw [h]; simp⟩)
     have KEY := zb (zgm x hxs);have IS := zb (ziZ b x)
     have VAL := zb (show (inF b (.string x.data.toList)).getD (.agg #[]) = .agg #[] from by
      unfold inF;split <;> rfl)
     clear hcl hx HI hxs;cases hh : zaM b x with
     | true =>
      rw [hh] at AL IS;clear AF hh;go_wp2_with (at_lookup; refine Yd rfl (.tmp 32) (.tmp 33) 201 rfl 57 202 zmH Tryz.underlying201 (.agg #[]) (HZU.out _) w.heap.size m _ rfl MV.out (.string x) (.string x.data.toList) rfl KEY.out (.agg #[]) true VAL.out IS.out ?n2a);go_roundw
      case rel => exact ⟨k + 1, by omega, by go_num, zb ⟨AL.out, (KI.out.alloc (.cells #[] 202))⟩⟩
      case measure => simp [intOf]; omega
     | false =>
      rw [hh] at IS;have R := zb (AF.out hh);clear AF hh AL;go_wp2_with (at_lookup; refine Yd rfl (.tmp 32) (.tmp 33) 201 rfl 57 202 zmH Tryz.underlying201 (.agg #[]) (HZU.out _) w.heap.size m _ rfl MV.out (.string x) (.string x.data.toList) rfl KEY.out (.agg #[]) false VAL.out IS.out ?n2b);go_ret;exact ⟨by rw [R.out]; rfl, K2.out.trans (KI.out.alloc (.cells #[] 202))⟩
    ·obtain rfl : k = a.length := by omega
     have R := zb (show a.all (zaM b) = true from by have := HI.out.1; rwa [List.take_length] at this);have KI := zb HI.out.2;clear HI;go_wp2;go_ret;exact ⟨by rw [R.out]; rfl, K2.out.trans KI.out⟩
theorem zjI (w : World) (av bv : Value) (a b : List ByteArray) (G G' : Nat -> Prop) (ha : zu w av G a) (hb : zu w bv G' b) (hla : a.length <= 1000) (hlb : b.length <= 1000) :
  Calls Tryz.prog 133 #[av, bv] w fun e w' => e = .returned (.bool (a.all (zaM b) && b.all (zaM a))) ∧ Chg (fun _ => False) w w' := by
 have W1 := zb (zbH w av bv a b G G' ha hb hlb);have W2 := zb (fun w1 (k : Chg (fun _ => False) w w1) => zbH w1 bv av b a G' G (hb.chg k (fun _ _ e => e)) (ha.chg k (fun _ _ e => e)) hla);obtain ⟨aa, acap, rfl, hl0, _⟩ := ha;obtain ⟨ba, bcap, rfl, hl1, _⟩ := hb;generalize a.all (zaM b) = r at *;generalize b.all (zaM a) = q at *;go_enter Tryz.func133, Tryz.ntmps133;cases r with
 | false =>
  go_wp2_with fail;(with_reducible refine W1.out.mono ?_);rintro e w2 ⟨rfl, k2⟩;go_wp2;go_ret;exact ⟨rfl, k2⟩
 | true =>
  go_wp2_with fail;(with_reducible refine W1.out.mono ?_);rintro e w2 ⟨rfl, k2⟩;have W3 := zb (W2.out w2 k2);have K2 := zb k2;clear k2 W1 W2;go_wp2_with fail;(with_reducible refine W3.out.mono ?_);rintro e w3 ⟨rfl, k3⟩;go_wp2;go_ret;exact ⟨rfl, K2.out.trans k3⟩
end Go.Proofs.YthdfplafihmejaaGreat
namespace Go.Proofs
open Go.Shelf
shelf_lay_g SlLaysF.n6 Slsf 6 at Tryz 150 as Tryz.laysSortF
shelf_lay_g SlLaysE.n43 Slgn 43 at Tryz 152 as Tryz.laysCompact
end Go.Proofs
namespace Go.Proofs.YthdfplafihmejaaGreat
open Go.RowKit Go.Maps Go.Shelf Go.Lib Go.Sort
theorem zjn {l : List ByteArray} {j : Nat} {x : ByteArray} (h : l[j]? = some x) : (zC l)[j]? = some (.string x) := by
 unfold zC;rw [List.getElem?_map, h]; rfl
def zma (a b : ByteArray) : Int := if ZF a.data.toList b.data.toList = true then -1 else if ZF b.data.toList a.data.toList = true then 1 else 0
theorem zg7 (w : World) (a b : ByteArray) : Calls Tryz.prog 151 #[.string a, .string b] w fun e w' => e = .returned (.int .i64 (zma a b)) ∧ w = w' := by
 have L1 := zb (zcE w a b);have L2 := zb (zcE w b a);have R := zb (show zma a b = if ZF a.data.toList b.data.toList = true then -1 else if ZF b.data.toList a.data.toList = true then 1 else 0 from rfl);generalize ZF a.data.toList b.data.toList = p at *;generalize ZF b.data.toList a.data.toList = q at *;go_enter Tryz.func151, Tryz.ntmps151;cases p with
 | true =>
  go_wp2_with fail;(with_reducible refine L1.out.mono ?_);rintro e w2 ⟨rfl, rfl⟩;go_wp2;go_ret;exact ⟨by rw [R.out]; rfl, rfl⟩
 | false =>
  go_wp2_with fail;(with_reducible refine L1.out.mono ?_);rintro e w2 ⟨rfl, rfl⟩;go_wp2_with fail;(with_reducible refine L2.out.mono ?_);rintro e w3 ⟨rfl, rfl⟩;cases q
  all_goals
   go_wp2;go_ret;exact ⟨by rw [R.out]; rfl, rfl⟩
theorem zeJ (a b : ByteArray) : ltOf zma a b = yK a b := by
 unfold ltOf zma yK;cases ZF a.data.toList b.data.toList with
 | true => rfl
 | false => cases ZF b.data.toList a.data.toList <;> rfl
theorem zl9 : SWO (ltOf zma) where
 irrefl x := by rw [zeJ]; exact yC _
 trans x y z h1 h2 := by rw [zeJ] at *; exact yB h1 h2
 ntrans x y z h1 h2 := by
  rw [zeJ] at *;rw [<- Bool.not_eq_true];intro h;cases q : yK y x with
  | true =>
   have := yB q h;rw [show ZF y.data.toList z.data.toList = false from h2] at this;cases this
  | false =>
   have e := Xe (xB (show ZF x.data.toList y.data.toList = false from h1) q);subst e;rw [h2] at h; cases h
theorem zmQ {w : World} {g n : Nat} {e : TypeId} {cur : Array Value} (ys : List ByteArray) (hg : w.heap[g]? = some (.cells cur e (0, 0))) (hy : ys.length = n) (hc : n <= cur.size) (q : Nat) (os : Array Obj) :
  (grow (putRow Value.string (Sort.ahead w q) g 0 ys.toArray) os).heap[g]? = some (.cells ((ys.map Value.string) ++ cur.toList.drop n).toArray e (0, 0)) ∧ Chg (· = g) w (grow (putRow Value.string (Sort.ahead w q) g 0 ys.toArray) os) := by
 have hlt := zq hg
 have h1 : (putRow Value.string (Sort.ahead w q) g 0 ys.toArray).heap[g]? = some (.cells (putCells Value.string 0 ys.toArray cur) e (0, 0)) := by
  show (w.heap.modify g (onCells _))[g]? = _;rw [Array.getElem?_modify, if_pos rfl, hg]; rfl
 have h2 : putCells Value.string 0 ys.toArray cur = ((ys.map Value.string) ++ cur.toList.drop n).toArray := by
  apply Array.ext
  ·simp [putCells]; omega
  ·intro i h3 h4
   simp only [putCells, Array.size_mapIdx] at h3;simp only [putCells, Array.getElem_mapIdx, List.getElem_toArray];by_cases hi : i < n
   ·rw [if_pos ⟨by omega, by simp; omega⟩, List.getElem_append_left (by simp; omega)]
    simp [hy, hi]
   ·rw [if_neg (by simp; omega), List.getElem_append_right (by simp; omega)]
    simp [hy]
    congr 1; omega
 refine ⟨?_, ?_⟩
 ·rw [heap_grow_old _ os (by rw [size_putRow]; exact hlt), h1, h2]
 ·have hz := size_putRow Value.string (Sort.ahead w q) g 0 ys.toArray
  refine ⟨rfl, rfl, rfl, by rw [grow, Array.size_append, hz]; show w.heap.size <= w.heap.size + os.size; omega, fun k hk hne => ?_⟩;rw [heap_grow_old _ os (by rw [size_putRow]; exact hk)];show (w.heap.modify g (onCells _))[k]? = _;rw [Array.getElem?_modify, if_neg (fun e => hne e.symm)]
structure zmx (w : World) (base g cap : Nat) (l : List ByteArray) : Prop where
 row : ∃ cs, w.heap[g]? = some (.cells cs 57 (0, 0)) ∧ cs.size = cap ∧ ∀ (j : Nat) x, l[j]? = some x -> cs[j]? = some (.string x)
 len : l.length <= cap
 max : cap <= maxLen
 base : base <= g
theorem zlh {w : World} {base g cap : Nat} {l : List ByteArray} (h : w.ownsRow base 57 1 (.slice (some ⟨g, 0, none⟩) l.length cap) l.length (zC l)) : zmx w base g cap l := by
 have h0 := h;obtain ⟨_, ⟨q, _⟩ | ⟨g', cap', cur, q, hb, hh, h1, h2, h3, h4⟩⟩ := h
 ·cases q
 ·cases q
  refine ⟨⟨cur, hh, by omega, fun j x hj => ?_⟩, h1, h2, hb⟩;have hl := (List.getElem?_eq_some_iff.1 hj).1;have := h0.cellAt j (by omega);rw [zjn hj] at this;have hc : j < cur.size := by omega
  have e2 : w.cell? ⟨g, j, none⟩ = some cur[j] := ze hh (Array.getElem?_eq_getElem hc);rw [e2] at this;rw [Array.getElem?_eq_getElem hc]; exact this
theorem zmx.holds {w : World} {base g cap : Nat} {l : List ByteArray} (h : zmx w base g cap l) : Holds Value.string w g 0 l.toArray := by
 obtain ⟨cs, h1, h2, h3⟩ := h.row;intro j hj;have hj : j < l.length := by simpa using hj
 refine ⟨?_, zk h1⟩;rw [Nat.zero_add, ze h1 (h3 j _ (List.getElem?_eq_getElem hj)), getElem!_pos _ j (by simpa using hj)];simp
theorem zmx.words {w : World} {base g cap n : Nat} {l : List ByteArray} (h : zmx w base g cap l) (hs : ∀ x ∈ l, x.size <= maxLen) (hn : n = l.length) (c : Nat) : zu w (.slice (some ⟨g, 0, none⟩) n c) (fun k => k = g) l := by
 obtain ⟨cs, h1, h2, h3⟩ := h.row;subst hn;exact ⟨_, c, rfl, Nat.le_trans h.len h.max, fun j x hj => ⟨g, 0, rfl, rfl, by rw [Nat.zero_add]; exact ze h1 (h3 j x hj), hs x (List.mem_of_getElem? hj)⟩⟩
theorem zmx.put {w : World} {base g cap : Nat} {l : List ByteArray} (h : zmx w base g cap l) (ys : List ByteArray) (hy : ys.length = l.length) (m : List ByteArray) (hm : ∀ (j : Nat) x, m[j]? = some x -> ys[j]? = some x) (hml : m.length <= ys.length) (q : Nat) (os : Array Obj) :
  zmx (grow (putRow Value.string (Sort.ahead w q) g 0 ys.toArray) os) base g cap m ∧ Chg (· = g) w (grow (putRow Value.string (Sort.ahead w q) g 0 ys.toArray) os) := by
 obtain ⟨cs, h1, h2, h3⟩ := h.row;have hl := h.len;obtain ⟨r1, r2⟩ := zmQ ys h1 rfl (by omega) q os;refine ⟨⟨⟨_, r1, by simp; omega, fun j x hj => ?_⟩, by omega, h.max, h.base⟩, r2⟩;have hx := hm j x hj;have hjl := (List.getElem?_eq_some_iff.1 hx).1;rw [List.getElem?_toArray, List.getElem?_append_left (by simpa using hjl), List.getElem?_map, hx]; rfl
theorem zb1 {d : Array ByteArray} (hs : SortedIn (ltOf zma) 0 d.size d) : ∀ k, k <= d.size -> (compactUpTo d k).Pairwise (fun a b => yK a b = true) ∧ (∀ x, x ∈ compactUpTo d k ↔ ∃ j, j < k ∧ d[j]! = x)
 | 0, _ => ⟨by simp [compactUpTo], fun x => by simp [compactUpTo]⟩
 | k + 1, hk => by
  obtain ⟨h1, h2⟩ := zb1 hs k (by omega);rw [compactUpTo_succ]
  have le : ∀ i j, i <= j -> j < d.size -> yK d[j]! d[i]! = false := fun i j hij hj => by
   rcases Nat.lt_or_ge i j with q | q
   ·have := hs i j (Nat.zero_le _) q hj
    rwa [zeJ] at this
   ·obtain rfl : i = j := by omega
    exact yC _
  cases hkp : keeps d k with
  | true =>
   rw [if_pos rfl];refine ⟨?_, fun x => ?_⟩
   ·rw [List.pairwise_append]
    refine ⟨h1, List.pairwise_singleton _ _, fun x hx y hy => ?_⟩;rw [List.mem_singleton] at hy;subst hy;obtain ⟨j, hj, rfl⟩ := (h2 x).1 hx;have hkk : k = 0 ∨ d[k]! ≠ d[k - 1]! := of_decide_eq_true hkp
    have hne : d[k]! ≠ d[k - 1]! := by
     rcases hkk with q | q
     ·omega
     ·exact q
    cases q : yK d[j]! d[k]! with
    | true => rfl
    | false =>
     exfalso;have a1 := le j (k - 1) (by omega) (by omega);have a2 := le (k - 1) k (by omega) (by omega);apply hne;cases r : yK d[k - 1]! d[k]! with
     | false => exact Xe (xB a2 r)
     | true =>
      have : yK d[j]! d[k]! = true := by
       cases s : yK d[j]! d[k - 1]! with
       | true => exact yB s r
       | false =>
        have e := Xe (xB s a1);rw [e]; exact r
      rw [q] at this; cases this
   ·rw [List.mem_append, h2, List.mem_singleton]
    constructor
    ·rintro (⟨j, hj, e⟩ | e)
     ·exact ⟨j, by omega, e⟩
     ·exact ⟨k, by omega, e.symm⟩
    ·rintro ⟨j, hj, e⟩
     rcases Nat.lt_or_ge j k with q | q
     ·exact .inl ⟨j, q, e⟩
     ·obtain rfl : j = k := by omega
      exact .inr e.symm
  | false =>
   rw [if_neg (by simp), List.append_nil];have hkk : ¬ (k = 0 ∨ d[k]! ≠ d[k - 1]!) := of_decide_eq_false hkp;have h0 : k ≠ 0 := fun e => hkk (.inl e);have he : d[k]! = d[k - 1]! := Classical.byContradiction fun q => hkk (.inr q);refine ⟨h1, fun x => ?_⟩;rw [h2];constructor
   ·rintro ⟨j, hj, e⟩
    exact ⟨j, by omega, e⟩
   ·rintro ⟨j, hj, e⟩
    rcases Nat.lt_or_ge j k with q | q
    ·exact ⟨j, q, e⟩
    ·obtain rfl : j = k := by omega
     exact ⟨j - 1, by omega, by rw [<- he]; exact e⟩
theorem zgO {d d' : Array ByteArray} (h : PermIn 0 d.size d d') : d'.toList.Perm d.toList := by
 obtain ⟨h1, _, h3⟩ := h;have e1 : d'.extract 0 d.size = d' := by rw [<- h1]; simp
 have e2 : d.extract 0 d.size = d := by simp
 rwa [e1, e2] at h3
theorem zg8 {d : Array ByteArray} (hs : SortedIn (ltOf zma) 0 d.size d) (x : ByteArray) : x ∈ compactUpTo d d.size ↔ x ∈ d.toList := by
 rw [(zb1 hs d.size (Nat.le_refl _)).2];constructor
 ·rintro ⟨j, hj, rfl⟩
  rw [getElem!_pos _ j hj];exact List.mem_of_getElem? (i := j) (by simp [hj])
 ·intro h
  obtain ⟨j, hj⟩ := List.mem_iff_getElem?.1 h;have hl := (List.getElem?_eq_some_iff.1 hj).1;have hl : j < d.size := by simpa using hl
  refine ⟨j, hl, ?_⟩;rw [getElem!_pos _ j hl]
  simpa [hl] using hj
theorem zih (w : World) (g o n c : Nat) (G : Nat -> Prop) (l : List ByteArray) (hv : zu w (.slice (some ⟨g, o, none⟩) n c) G l) (hl : l.length <= 1000) :
  Calls Tryz.prog 149 #[.slice (some ⟨g, o, none⟩) n c] w fun e w' => ∃ v, e = .returned v ∧ w'.ownsRow w.heap.size 57 1 v l.length (zC l) ∧ Chg (fun _ => False) w w' := by
 have SRC := zb (xX hv);obtain ⟨la, cap, e, hl0, _⟩ := hv;cases e;have EQN := fun w => Lib.run_eql_slice_nil (P := Tryz.prog) w 25 _ (some ⟨g, o, none⟩) l.length c 0 0 Tryz.underlying25;go_enter Tryz.func149, Tryz.ntmps149;go_wp2_with (at_builtin; refine zN rfl (.tmp 5) (.tmp 6) 25 rfl 57 1 16 Tryz.underlying25 Tryz.elemWord w.heap.size _ 0 [] rfl (ZK _ _ _ _ (Nat.le_refl _)) (some ⟨g, o, none⟩) l.length c (zC l) rfl ?a1 ?a2 ?a3 ?a4 ?a5 ?a6 ?a7 ?nx1)
 case a1 => unfold zC; rw [List.length_map]; omega
 case a2 =>
  intro j u hj;obtain ⟨g', o', e, c1⟩ := SRC.out j u hj;exact ⟨g', o', e, zi (zh (fun _ => False) w _) (fun e => e) c1⟩
 case a3 => intro e; cases e
 case a4 => exact yZ l
 case a5 => omega
 case a6 => unfold maxLen; omega
 case a7 => simp
 intro v8 w8 o8 g8;obtain ⟨a8, c8, rfl⟩ := zl o8
 have k8 : Chg (fun _ => False) w w8 := (zh (fun _ => False) w (.cells #[] 57)).next (Chg.of_grown g8) (fun x hx e => by
  have e2 : w.heap.size = x := by simpa [Value.ownBlock] using e
  omega)
 have K8 := zb k8;have O8 := zb (show w8.ownsRow w.heap.size 57 1 (.slice a8 (0 + l.length) c8) l.length (zC l) from by simpa using o8);clear o8 g8 k8;go_wp2;go_ret;exact ⟨_, rfl, (by have := O8.out; rw [Nat.zero_add] at this; exact this), K8.out⟩
theorem zjm (w : World) (g n c : Nat) (hn : n <= c) : Calls Tryz.prog 153 #[.slice (some ⟨g, 0, none⟩) n c] w fun e w' => e = .returned (.slice (some ⟨g, 0, none⟩) n n) ∧ w = w' := by
 go_enter Tryz.func153, Tryz.ntmps153;go_wp2;go_ret;exact ⟨rfl, rfl⟩
def zeN (w : World) (l : List ByteArray) (e : Ending) (w' : World) : Prop :=
 ∃ va m, m.Pairwise (fun a b => yK a b = true) ∧ (∀ x, x ∈ m ↔ x ∈ l) ∧ Chg (fun _ => False) w w' ∧ ((1 <= m.length ∧ m.length <= 16 ∧ e = .returned (.tuple #[va, .int .i64 0]) ∧ zu w' va (fun k => w.heap.size <= k ∧ k < w'.heap.size) m) ∨ (¬ (1 <= m.length ∧ m.length <= 16) ∧ e = .returned (.tuple #[.slice none 0 0, .int .i64 3])))
theorem zgz {w w' : World} {l m : List ByteArray} {va : Value} (h1 : m.Pairwise (fun a b => yK a b = true)) (h2 : ∀ x, x ∈ m ↔ x ∈ l) (hc : Chg (fun _ => False) w w') (h3 : 1 <= m.length) (h4 : m.length <= 16) (hw : zu w' va (fun k => w.heap.size <= k ∧ k < w'.heap.size) m) : zeN w l (.returned (.tuple #[va, .int .i64 0])) w' := ⟨va, m, h1, h2, hc, .inl ⟨h3, h4, rfl, hw⟩⟩
theorem zfa {w w' : World} {l m : List ByteArray} (h1 : m.Pairwise (fun a b => yK a b = true)) (h2 : ∀ x, x ∈ m ↔ x ∈ l) (hc : Chg (fun _ => False) w w') (h3 : ¬ (1 <= m.length ∧ m.length <= 16)) : zeN w l (.returned (.tuple #[.slice none 0 0, .int .i64 3])) w' := ⟨.slice none 0 0, m, h1, h2, hc, .inr ⟨h3, rfl⟩⟩
theorem zoo (P : Program) (T : TypeId) : EqlAt P T Value.string (fun x y : ByteArray => decide (x = y)) := by
 have := EqlAt.string P T;rwa [show (fun x y : ByteArray => x.toList == y.toList) = fun x y => decide (x = y) from funext fun x => funext fun y => YK x y] at this
theorem zoi (P : Program) (T : TypeId) : NeqAt P T Value.string (fun x y : ByteArray => decide (x = y)) := by
 have := NeqAt.string P T;rwa [show (fun x y : ByteArray => x.toList == y.toList) = fun x y => decide (x = y) from funext fun x => funext fun y => YK x y] at this
set_option maxHeartbeats 2000000 in
set_option maxRecDepth 100000 in
theorem zjD (w : World) (g o n c : Nat) (G : Nat -> Prop) (l : List ByteArray) (hv : zu w (.slice (some ⟨g, o, none⟩) n c) G l) (hl1 : 1 <= l.length) (hl : l.length <= 1000) (hm : ∀ x ∈ l, Zm x.data.toList = true) :
  Calls Tryz.prog 132 #[.slice (some ⟨g, o, none⟩) n c] w (zeN w l) := by
 have HV := zb hv;have HM := zb hm;obtain ⟨_, _, e, hl0, hcl⟩ := hv;cases e
 have SZ := zb (show ∀ x ∈ l, x.size <= maxLen from fun x hx => by
  obtain ⟨j, hj⟩ := List.mem_iff_getElem?.1 hx;obtain ⟨_, _, _, _, _, q⟩ := hcl j x hj;exact q)
 clear hcl hm;unfold maxLen at hl0;go_enter Tryz.func132, Tryz.ntmps132;go_wp2;go_loopw [9] (fun iv wr => ∃ k : Nat, k <= l.length ∧ iv = .int .i64 k ∧ Hid (Chg (fun _ => False) w wr)) (fun iv _ => l.length - (intOf iv).toNat)
 case atStart => exact ⟨0, by omega, rfl, zb (Chg.refl _ _)⟩
 case round =>
  obtain ⟨k, hk, rfl, HI⟩ := hrel;by_cases hlt : k < l.length
  ·obtain ⟨x, hx⟩ : ∃ x, l[k]? = some x := ⟨_, List.getElem?_eq_getElem hlt⟩
   obtain ⟨_, _, e1, _, hcl⟩ := HV.out.chg HI.out (fun _ _ e => e);cases e1;obtain ⟨lb, lo, e2, _, c0, hxs⟩ := hcl k x hx;cases e2;have MY := Xi wr x hxs;rw [HM.out x (List.mem_of_getElem? hx)] at MY;have MY := zb MY;clear hcl hx hxs;go_wp2_with fail;(with_reducible refine MY.out.mono ?_);rintro e w2 ⟨rfl, k2⟩;have K2 := zb (HI.out.trans k2);clear k2 MY;go_wp2;go_roundw
   case rel => exact ⟨k + 1, by omega, by go_num, K2⟩
   case measure => simp [intOf]; omega
  ·obtain rfl : k = l.length := by omega
   have CL := zb (zih wr g o l.length c G l (HV.out.chg HI.out (fun _ _ e => e)) hl);have hsw : w.heap.size <= wr.heap.size := HI.out.size;go_wp2_with fail;(with_reducible refine CL.out.mono ?_);rintro e w2 ⟨va, rfl, ho, k2⟩;have K2 := zb (HI.out.trans k2);obtain ⟨a2, cap, rfl⟩ := zl ho;obtain ⟨g2, rfl⟩ := ZV ho (by omega);have W2 := zb (zlh ho);have hcap := W2.out.len;have hcm := W2.out.max;have hg2 : w.heap.size <= g2 := Nat.le_trans hsw W2.out.base
   have hgl : g2 < w2.heap.size := by
    obtain ⟨cs, q, _⟩ := W2.out.row;exact zq q
   have ST := Any.slices_SortFunc Tryz.laysSortF Value.string (fun _ => rfl) zma zl9 151 #[] g2 0 cap l.toArray w2 (enters_of Tryz.func151 (by kernel_rfl) rfl) (CmpReads.lays fun m os dk _ x y => (zg7 _ x y).mono fun e w' ⟨he, hw⟩ => ⟨he, 0, by rw [<- hw]; rfl⟩) W2.out.holds hgl (by simp; omega);change Calls Tryz.prog 150 #[.slice (some ⟨g2, 0, none⟩) l.length cap, .func (.func 151) #[] #[]] w2 _ at ST;have ST := zb ST;clear ho k2 CL;go_wp2_with fail;(with_reducible refine ST.out.mono ?_);rintro e w3 ⟨rfl, d', q, os, hperm, hsorted, hw3⟩;have hd : d'.size = l.length := by have := hperm.1; simpa using this
   have hpl : d'.toList.Perm l := zgO hperm;have hso : SortedIn (ltOf zma) 0 d'.size d' := by rw [hd]; have := hsorted; simpa using this
   have w3b : w3 = grow (putRow Value.string (Sort.ahead w2 q) g2 0 d'.toList.toArray) os := by rw [hw3]; simp [sortWorld]
   obtain ⟨W3, k3⟩ := W2.out.put d'.toList (by simp [hd]) d'.toList (fun _ _ h => h) (Nat.le_refl _) q os;rw [<- w3b] at W3 k3;have W3 := zb W3;have K3 := zb (show Chg (fun _ => False) w w3 from K2.out.next k3 (fun x hx e => by omega))
   have hg3 : g2 < w3.heap.size := by
    obtain ⟨cs, r, _⟩ := W3.out.row;exact zq r
   have hz3 : ∀ w, (zeroValue 57).run Tryz.prog w = .ok (Value.string ⟨#[]⟩) w := fun _ => by kernel_rfl
   have hH3 : Holds Value.string w3 g2 0 d' := by have := W3.out.holds; simpa using this
   have CP := AnyE.slices_Compact Tryz.laysCompact Value.string (fun _ => rfl) (zoo _ _) (zoi _ _) (⟨#[]⟩ : ByteArray) hz3 g2 0 cap d' w3 hH3 (by omega) (by omega);change Calls Tryz.prog 152 #[.slice (some ⟨g2, 0, none⟩) d'.size cap] w3 _ at CP;rw [hd] at CP;have hcm1 := zb1 hso d'.size (Nat.le_refl _);have hcm2 := zg8 hso;rw [hd] at hcm1 hcm2;have hml : (compactUpTo d' l.length).length <= l.length := zaw (hcm1.1.imp (fun {a b} q e => by subst e; rw [show yK a a = false from yC _] at q; cases q)) (fun x hx => hpl.mem_iff.1 ((hcm2 x).1 hx));have PW := zb hcm1.1;have MEM := zb (show ∀ x, x ∈ compactUpTo d' l.length ↔ x ∈ l from fun x => by rw [hcm2]; exact hpl.mem_iff);clear hcm1 hcm2 hso hperm hsorted hw3 w3b k3 hpl K2 hH3 ST;generalize compactUpTo d' l.length = m at *;have CP := zb CP;go_wp2_with fail;(with_reducible refine CP.out.mono ?_);rintro e w4 ⟨rfl, q4, hw4⟩;have hyl : (m ++ List.replicate (l.length - m.length) (⟨#[]⟩ : ByteArray)).length = d'.toList.length := by simp [hd]; omega
   obtain ⟨W4, k4⟩ := W3.out.put (m ++ List.replicate (l.length - m.length) ⟨#[]⟩) hyl m (fun j x h => by
    rw [List.getElem?_append_left (List.getElem?_eq_some_iff.1 h).1]; exact h) (by simp) q4 #[]
   rw [grow_empty, <- hw4] at W4 k4;have W4 := zb W4;have K4 := zb (show Chg (fun _ => False) w w4 from K3.out.next k4 (fun x hx e => by omega))
   have hg4 : g2 < w4.heap.size := by
    obtain ⟨cs, r, _⟩ := W4.out.row;exact zq r
   have hmc : m.length <= cap := by omega
   clear hyl k4 hw4 CP K3 W3;by_cases hb : 1 <= m.length ∧ m.length <= 16
   ·have g1 : decide ((m.length : Int) < 1) = false := decide_eq_false (by omega)
    have g2' : decide (16 < (m.length : Int)) = false := decide_eq_false (by omega);have CC := zb (zjm w4 g2 m.length cap hmc);have FIN := zb (zgz PW.out MEM.out K4.out hb.1 hb.2 ((W4.out.words (fun x hx => SZ.out x ((MEM.out x).1 hx)) rfl m.length).up (fun k hk => by omega)));clear hb;go_wp2_with fail;(with_reducible refine CC.out.mono ?_);rintro e w5 ⟨rfl, rfl⟩;go_wp2;go_ret2;exact FIN.out
   ·have FIN := zb (zfa PW.out MEM.out K4.out hb)
    have P3 : (decide ((m.length : Int) < 1) = true) ∨ (decide ((m.length : Int) < 1) = false ∧ decide (16 < (m.length : Int)) = true) := by
     by_cases q : (m.length : Int) < 1
     ·exact .inl (decide_eq_true q)
     ·exact .inr ⟨decide_eq_false q, decide_eq_true (by omega)⟩
    clear hb;rcases P3 with q1 | ⟨q1, q2⟩
    all_goals
     go_wp2;go_ret2;exact FIN.out
end Go.Proofs.YthdfplafihmejaaGreat
