/-
  Package proof: stand, owner, number. Package proof: number.
-/
import Derived.Test.YthdfplafihmejaaGreatZcQAt
import Derived.Shelf.SlSorted.Search
import Derived.Shelf.Lay
import Derived.Ground.SlsoProg
import Derived.Test.YthdfplafihmejaaGreatZcURun
namespace Go.Proofs.YthdfplafihmejaaGreat
open Go.RowKit Go.Maps Go.Shelf Go.Lib Go.Sort
shelf_lay SlLaysO.n16 Slso 16 at Tryz as Tryz.searchLay
theorem zcy (S : Nat -> Prop) (w : World) (q : Nat) (os : Array Obj) : Chg S w (grow (w.drewN q) os) :=
  ⟨rfl, rfl, rfl, by rw [grow, Array.size_append]; show w.heap.size <= w.heap.size + os.size; omega, fun k hk _ => heap_grow_old (w.drewN q) os hk⟩
set_option maxHeartbeats 2000000 in
set_option maxRecDepth 100000 in
theorem ze8 (w : World) (roots : Int) (bv sv : Value) (G : Nat -> Prop) (l : zG) (n : Nat) (hl : yw w sv G l) (hf : yT l) (h0 : 0 <= roots) (hn : n <= 1000000) :
    Calls Tryz.prog 160 #[.agg #[.int .i64 roots, bv], sv, .int .i64 (n : Int)] w fun e w' => e = .returned (.bool (yz roots n l)) ∧ Chg (fun _ => False) w w' := by
  have KA := zb (zh (fun _ => False) w (.cells #[.int .i64 roots, bv] 217));have OA := zb (zf w (.cells #[.int .i64 roots, bv] 217));have HL := zb hl;obtain ⟨la, cap, rfl, hl0, _⟩ := hl;unfold maxLen at hl0;have HF := zb hf
  have YES := zb (fun (q : ∀ (j : Nat) s, l[j]? = some s -> xr roots n s = true) => show yz roots n l = true from List.all_eq_true.2 (fun s hs => by
    obtain ⟨j, hj⟩ := List.mem_iff_getElem?.1 hs;exact q j s hj))
  have NOT := zb (fun (j : Nat) s (hj : l[j]? = some s) (q : xr roots n s = false) => show yz roots n l = false from by
    cases hb : yz roots n l with
    | false => rfl
    | true =>
      have := List.all_eq_true.1 hb s (List.mem_of_getElem? hj);rw [q] at this;cases this)
  generalize yz roots n l = res at *;clear hf;go_enter Tryz.func160, Tryz.ntmps160;go_wp2;generalize w.alloc (.cells #[.int .i64 roots, bv] 217) = w1 at *;go_loopw [11] (fun iv wr => ∃ k : Nat, k <= l.length ∧ iv = .int .i64 k ∧ Hid ((∀ (j : Nat) s, j < k -> l[j]? = some s -> xr roots n s = true) ∧ Chg (fun _ => False) w1 wr)) (fun iv _ => l.length - (intOf iv).toNat)
  case atStart => exact ⟨0, by omega, rfl, zb ⟨fun j s hj => by omega, Chg.refl _ _⟩⟩
  case round =>
    obtain ⟨k, hk, rfl, HI⟩ := hrel;have ALL := zb HI.out.1;have K1 := zb HI.out.2;clear HI;by_cases hlt : k < l.length
    · obtain ⟨⟨at_, r⟩, hx⟩ : ∃ s, l[k]? = some s := ⟨_, List.getElem?_eq_getElem hlt⟩
      obtain ⟨_, _, e1, _, hcl⟩ := HL.out.chg (KA.out.trans K1.out) (fun _ _ e => e);cases e1;obtain ⟨lb, lo, rfl, _, x0, x1⟩ := hcl k _ hx;obtain ⟨f1, f2⟩ := (HF.out _ (List.mem_of_getElem? hx)).2;simp only at x0 x1 f1 f2;have kb := zh (fun _ => False) wr (.cells #[.int .i64 at_, .int .i64 r] 153);have KB := zb (K1.out.trans kb);have n0 := ze (o := 0) (KB.out.obj (fun e => e) OA.out) rfl;have s1 := ze (o := 1) (zf wr (.cells #[.int .i64 at_, .int .i64 r] 153)) rfl
      have NX := zb (show xr roots n (at_, r) = true -> ∀ (j : Nat) s, j < k + 1 -> l[j]? = some s -> xr roots n s = true from fun q j s hj hs => by
        rcases Nat.lt_or_ge j k with z | z
        · exact ALL.out j s z hs
        · obtain rfl : j = k := by omega
          rw [hx] at hs; cases hs; exact q)
      have NO := zb (NOT.out k (at_, r) hx);clear hcl hx kb;by_cases h1 : r < 0
      · have g1 : decide (r < 0) = true := decide_eq_true h1
        have R := zb (NO.out (by unfold xr; simp only; rw [decide_eq_false (by omega)]; rfl));go_wp2;go_ret;exact ⟨by rw [R.out]; rfl, KA.out.trans KB.out⟩
      have g1 : decide (r < 0) = false := decide_eq_false h1;by_cases h2 : roots <= r
      · have g2 : decide (roots <= r) = true := decide_eq_true h2
        have z1 : IntKind.i64.wrap (r - roots) = r - roots := by rw [IntKind.wrap_i64]; omega
        by_cases h3 : (n : Int) <= r - roots
        · have g3 : decide ((n : Int) <= r - roots) = true := decide_eq_true h3
          have R := zb (NO.out (by unfold xr; simp only; rw [decide_eq_false (p := r < roots + n) (by omega)]; simp));go_wp2;go_ret;exact ⟨by rw [R.out]; rfl, KA.out.trans KB.out⟩
        · have g3 : decide ((n : Int) <= r - roots) = false := decide_eq_false h3
          have R := zb (NX.out (by unfold xr; simp only; rw [decide_eq_true (p := 0 <= r) (by omega), decide_eq_true (p := r < roots + n) (by omega)]; rfl));go_wp2;go_roundw
          case rel => exact ⟨k + 1, by omega, by go_num, zb ⟨R.out, KB.out⟩⟩
          case measure => simp [intOf]; omega
      · have g2 : decide (roots <= r) = false := decide_eq_false h2
        have R := zb (NX.out (by unfold xr; simp only; rw [decide_eq_true (p := 0 <= r) (by omega), decide_eq_true (p := r < roots + n) (by omega)]; rfl));go_wp2;go_roundw
        case rel => exact ⟨k + 1, by omega, by go_num, zb ⟨R.out, KB.out⟩⟩
        case measure => simp [intOf]; omega
    · obtain rfl : k = l.length := by omega
      have R := zb (YES.out (fun j s hj => ALL.out j s (List.getElem?_eq_some_iff.1 hj).1 hj));go_wp2;go_ret;exact ⟨by rw [R.out]; rfl, KA.out.trans K1.out⟩
set_option maxRecDepth 100000 in
theorem ziE (W : World) (bn bq g i m bc x : Nat) (q : Int) (hi : i < m) (h1 : W.cell? ⟨bn, 1, none⟩ = some (.slice (some ⟨g, 0, none⟩) m bc)) (h2 : W.cell? ⟨bq, 0, none⟩ = some (.int .i64 q)) (h3 : W.cell? ⟨g, i, none⟩ = some (.int .i64 (x : Int))) :
    Calls Tryz.prog 163 (#[.int .i64 (i : Int)] ++ #[.pointer (some ⟨bn, 0, none⟩), .pointer (some ⟨bq, 0, none⟩)]) W fun e w' => e = .returned (.bool (decide (q < (x : Int)))) ∧ ∃ k, w' = W.drewN k := by
  have hiz : (i : Int) < (m : Int) := by omega
  generalize hb : decide (q < (x : Int)) = b;go_enter Tryz.func163, Tryz.ntmps163;go_wp2_with fail;go_quiet (fail);rename_i nq;go_wp2;go_ret;exact ⟨by first | rfl | simp [hb], nq, rfl⟩
def zk6 (w : World) (o : Option Nat) (e : Ending) (w' : World) : Prop := (∃ i : Nat, o = some i ∧ e = .returned (.tuple #[.int .i64 (i : Int), .bool true]) ∧ Chg (fun _ => False) w w') ∨ (o = none ∧ e = .returned (.tuple #[.int .i64 0, .bool false]) ∧ Chg (fun _ => False) w w')
theorem zdE (B : List Nat) (q : Nat) : (List.range B.length).countP (fun i => !decide ((q : Int) < ((B.getD i 0 : Nat) : Int))) = B.countP (fun b => decide (b <= q)) := by
  have h : B = (List.range B.length).map (fun i => B.getD i 0) := by
    apply List.ext_getElem?;intro i;rw [List.getElem?_map];by_cases hi : i < B.length
    · rw [List.getElem?_range hi, List.getElem?_eq_getElem hi]
      show some B[i] = some (B.getD i 0);rw [List.getD_eq_getElem?_getD, List.getElem?_eq_getElem hi]; rfl
    · rw [List.getElem?_eq_none (by omega), List.getElem?_eq_none (by rw [List.length_range]; omega)]; rfl
  conv => rhs; rw [h]
  rw [List.countP_map]
  congr 1
  funext i
  simp only [Function.comp];rw [<- decide_not, decide_eq_decide];omega
set_option maxHeartbeats 2000000 in
set_option maxRecDepth 100000 in
theorem zfq (w : World) (roots r : Int) (B : List Nat) (ba : Option Addr) (bc base : Nat) (hrow : w.ownsRow base 3 1 (.slice ba B.length bc) B.length (yP B)) (hs : B.Pairwise (· <= ·)) (h0 : 0 <= roots) (hr : zbE r) (hl : 0 < B.length) (hlen : B.length <= 1000000)
    (hpos : roots <= r -> 1 <= B.countP (fun b => decide (b <= (r - roots).toNat))) :
    Calls Tryz.prog 144 #[.agg #[.int .i64 roots, .slice ba B.length bc], .int .i64 r] w (zk6 w (XE roots B r)) := by
  have ka := zh (fun _ => False) w (.cells #[.int .i64 roots, .slice ba B.length bc] 217);have oa := zf w (.cells #[.int .i64 roots, .slice ba B.length bc] 217);have n0 := ze (o := 0) oa rfl;by_cases h1 : r < roots
  · have g1 : decide (r < roots) = true := decide_eq_true h1
    have e1 : XE roots B r = none := by unfold XE; rw [if_pos h1]
    rw [e1];have KA := zb ka;clear hrow hs hpos ka oa hr;go_enter Tryz.func144, Tryz.ntmps144;go_wp2;go_ret2;exact .inr ⟨rfl, rfl, KA.out⟩
  have g1 : decide (r < roots) = false := decide_eq_false h1;obtain ⟨g, rfl⟩ := ZV hrow hl;obtain ⟨q, hq⟩ : ∃ q : Nat, (r - roots) = (q : Int) := ⟨(r - roots).toNat, by omega⟩
  have e1 : XE roots B r = some (B.countP (fun b => decide (b <= q)) - 1) := by
    unfold XE;rw [if_neg h1, hq]; rfl
  have hp := hpos (by omega);rw [hq] at hp;simp only [Int.toNat_natCast] at hp;have z1 : IntKind.i64.wrap (r - roots) = (q : Int) := by rw [IntKind.wrap_i64, hq] <;> (obtain ⟨f1, f2⟩ := hr; omega)
  have kb := zh (fun _ => False) (w.alloc (.cells #[.int .i64 roots, .slice (some ⟨g, 0, none⟩) B.length bc] 217)) (.cells #[.int .i64 (q : Int)] 3);have cn := ze (o := 1) (kb.obj (fun e => e) oa) rfl;have oq := zf (w.alloc (.cells #[.int .i64 roots, .slice (some ⟨g, 0, none⟩) B.length bc] 217)) (.cells #[.int .i64 (q : Int)] 3);have cq := ze (o := 0) oq rfl;rw [World.size_alloc] at cq
  have cc : ∀ i, i < B.length -> ((w.alloc (.cells #[.int .i64 roots, .slice (some ⟨g, 0, none⟩) B.length bc] 217)).alloc (.cells #[.int .i64 (q : Int)] 3)).cell? ⟨g, i, none⟩ = some (.int .i64 ((B.getD i 0 : Nat) : Int)) := fun i hi => by
    have h2 : (yP B)[i]? = some (.int .i64 ((B.getD i 0 : Nat) : Int)) := by
      unfold yP;rw [List.getElem?_map, List.getElem?_eq_getElem hi, List.getD_eq_getElem?_getD, List.getElem?_eq_getElem hi]; rfl
    obtain ⟨_, _, e, _, hc⟩ := xW (zm (zm hrow ka (fun _ _ e => e)) kb (fun _ _ e => e));cases e;obtain ⟨g', e', _, c⟩ := hc i _ h2;cases e';exact c
  have eg : ∀ args w, (callFunc 163 args).run Tryz.prog w = .ok (.enter 163 args) w := enters_of Tryz.func163 (by kernel_rfl) rfl
  have hS := Any.sort_Search Tryz.searchLay 163 #[.pointer (some ⟨w.heap.size, 0, none⟩), .pointer (some ⟨w.heap.size + 1, 0, none⟩)] B.length (fun i => decide ((q : Int) < ((B.getD i 0 : Nat) : Int))) ((w.alloc (.cells #[.int .i64 roots, .slice (some ⟨g, 0, none⟩) B.length bc] 217)).alloc (.cells #[.int .i64 (q : Int)] 3)) eg (by omega)
    (fun m os i hi => (ziE _ w.heap.size (w.heap.size + 1) g i B.length bc (B.getD i 0) q hi (zi (zcy (fun _ => False) _ m os) (fun e => e) cn) (zi (zcy (fun _ => False) _ m os) (fun e => e) cq) (zi (zcy (fun _ => False) _ m os) (fun e => e) (cc i hi))).mono
      fun _ _ ⟨he, k, hk⟩ => ⟨he, k, #[], by rw [hk, grow_empty]⟩)
    (fun a b hab hb h => by
      have h3 := of_decide_eq_true h
      have : B.getD a 0 <= B.getD b 0 := by
        rcases Nat.eq_or_lt_of_le hab with rfl | hlt
        · exact Nat.le_refl _
        · have := List.pairwise_iff_getElem.1 hs a b (by omega) hb hlt
          rw [List.getD_eq_getElem?_getD, List.getD_eq_getElem?_getD, List.getElem?_eq_getElem (by omega), List.getElem?_eq_getElem hb];exact this
      exact decide_eq_true (by omega))
  rw [zdE] at hS;change Calls Tryz.prog 162 _ _ _ at hS;rw [e1];have KAB := zb (ka.trans kb);generalize hcn : B.countP (fun b => decide (b <= q)) = cnt at *
  have z2 : IntKind.i64.wrap ((cnt : Int) - 1) = ((cnt - 1 : Nat) : Int) := by
    have : cnt <= B.length := by rw [<- hcn]; exact List.countP_le_length
    rw [IntKind.wrap_i64] <;> omega
  have n0b := ze (o := 0) (kb.obj (fun e => e) oa) rfl;have HS := zb hS;clear hrow hs hpos ka kb oa oq cq cc eg hS hcn hr hp h1 hq e1;go_enter Tryz.func144, Tryz.ntmps144;go_wp2_with fail;(with_reducible refine HS.out.mono ?_);rintro e w2 ⟨rfl, m, os, rfl⟩;have K2 := zb (KAB.out.trans (zcy (fun _ => False) _ m os));go_wp2;go_ret2;exact .inl ⟨_, rfl, rfl, K2.out⟩
theorem Zd {w : World} {a k : Nat} {cs ds : Array Value} {t u : TypeId} {f g : Nat × Nat} (h : w.heap[a]? = some (.cells cs t f)) (h2 : w.heap[k]? = some (.cells ds u g)) (hn : t ≠ u) : a ≠ k := by
  rintro rfl;rw [h] at h2;cases h2;exact hn rfl
def zk7 (w : World) (roots : Int) (C : List zn) (p : zS) (e : Ending) (w' : World) : Prop := Chg (fun _ => False) w w' ∧
  ((xG roots C p ∧ ∃ (ba : Option Addr) (bc : Nat), e = .returned (.tuple #[.agg #[.int .i64 roots, .slice ba (zV C p.items).length bc], .int .i64 0]) ∧ w'.ownsRow w.heap.size 3 1 (.slice ba (zV C p.items).length bc) (zV C p.items).length (yP (zV C p.items))) ∨
   (¬ xG roots C p ∧ e = .returned (.tuple #[.agg #[.int .i64 0, .slice none 0 0], .int .i64 2])))
structure zb4 (w wr : World) (roots : Int) (iv sv bv : Value) (B : List Nat) : Prop where
  o0 : wr.heap[w.heap.size]? = some (.cells #[iv, sv] 83 (0, 0))
  o1 : wr.heap[w.heap.size + 1]? = some (.cells #[.int .i64 0, .slice none 0 0] 217 (0, 0))
  o2 : wr.heap[w.heap.size + 2]? = some (.cells #[.int .i64 roots, bv] 217 (0, 0))
  row : wr.ownsRow (w.heap.size + 3) 3 1 bv B.length (yP B)
  ch : Chg (fun _ => False) w wr
theorem zb4.chg {w wr w' : World} {roots : Int} {iv sv bv : Value} {B : List Nat} (h : zb4 w wr roots iv sv bv B) (k : Chg (fun _ => False) wr w') : zb4 w w' roots iv sv bv B :=
  ⟨k.obj (fun e => e) h.o0, k.obj (fun e => e) h.o1, k.obj (fun e => e) h.o2, zm h.row k (fun _ _ e => e), h.ch.trans k⟩
theorem zb4.push {w wr w' : World} {roots : Int} {iv sv bv bv' : Value} {B : List Nat} {n : Nat} (h : zb4 w wr roots iv sv bv B) (hg : wr.grownBy w' bv.ownBlock) (ho : w'.ownsRow (w.heap.size + 3) 3 1 bv' (B.length + 1) (yP B ++ [.int .i64 (n : Int)])) :
    zb4 w (w'.setCell ⟨w.heap.size + 2, 1, none⟩ bv') roots iv sv bv' (B ++ [n]) := by
  have kg := Chg.of_grown hg;have kc := zE w' (w.heap.size + 2) 1 bv';have low : ∀ k, bv.ownBlock = some k -> w.heap.size + 3 <= k := fun k hk => (h.row.lt k hk).1;refine ⟨kc.obj (by omega) (kg.obj (fun e => by have := low _ e; omega) h.o0), kc.obj (by omega) (kg.obj (fun e => by have := low _ e; omega) h.o1), zr (o := 1) (kg.obj (fun e => by have := low _ e; omega) h.o2) bv', ?_, (h.ch.next kg (fun k hk e => by have := low _ e; omega)).next kc (fun k hk e => by omega)⟩;rw [List.length_append];have e : yP (B ++ [n]) = yP B ++ [.int .i64 (n : Int)] := by simp [yP]
  rw [e];exact zm ho kc (fun k hk e => by have := (ho.lt k hk).1; omega)
theorem zb4.grown {w wr w' : World} {roots : Int} {iv sv bv : Value} {B : List Nat} (h : zb4 w wr roots iv sv bv B) (hg : wr.grownBy w' bv.ownBlock) : w'.heap[w.heap.size + 2]? = some (.cells #[.int .i64 roots, bv] 217 (0, 0)) :=
  (Chg.of_grown hg).obj (fun e => by have := (h.row.lt _ e).1; omega) h.o2
theorem zgS (w : World) (roots : Int) (iv sv : Value) : zb4 w (((w.alloc (.cells #[iv, sv] 83)).alloc (.cells #[.int .i64 0, .slice none 0 0] 217)).alloc (.cells #[.int .i64 roots, .slice none 0 0] 217)) roots iv sv (.slice none 0 0) [] := by
  have k1 := zh (fun _ => False) w (.cells #[iv, sv] 83);have k2 := zh (fun _ => False) (w.alloc (.cells #[iv, sv] 83)) (.cells #[.int .i64 0, .slice none 0 0] 217);have k3 := zh (fun _ => False) ((w.alloc (.cells #[iv, sv] 83)).alloc (.cells #[.int .i64 0, .slice none 0 0] 217)) (.cells #[.int .i64 roots, .slice none 0 0] 217);have o1 := zf (w.alloc (.cells #[iv, sv] 83)) (.cells #[.int .i64 0, .slice none 0 0] 217);have o2 := zf ((w.alloc (.cells #[iv, sv] 83)).alloc (.cells #[.int .i64 0, .slice none 0 0] 217)) (.cells #[.int .i64 roots, .slice none 0 0] 217);have z1 : (w.alloc (.cells #[iv, sv] 83)).heap.size = w.heap.size + 1 := World.size_alloc _ _;have z2 : ((w.alloc (.cells #[iv, sv] 83)).alloc (.cells #[.int .i64 0, .slice none 0 0] 217)).heap.size = w.heap.size + 2 := by rw [World.size_alloc, z1]
  rw [z1] at o1;rw [z2] at o2;exact ⟨k3.obj (fun e => e) (k2.obj (fun e => e) (zf _ _)), k3.obj (fun e => e) o1, o2, ⟨rfl, .inl ⟨rfl, rfl⟩⟩, (k1.trans k2).trans k3⟩
theorem zb4.last {w wr W : World} {roots : Int} {iv sv bv : Value} {B : List Nat} (h : zb4 w wr roots iv sv bv B) (u v : Value) (hW : W = (wr.setCell ⟨w.heap.size + 1, 0, none⟩ u).setCell ⟨w.heap.size + 1, 1, none⟩ v) :
    W.heap[w.heap.size + 1]? = some (.cells #[u, v] 217 (0, 0)) ∧ Chg (fun _ => False) w W ∧ W.ownsRow w.heap.size 3 1 bv B.length (yP B) := by
  obtain ⟨h1, h2⟩ := zjF h.o1 u v W hW;exact ⟨h1, h.ch.next h2 (fun k hk e => by omega), yA (zm h.row h2 (fun k hk e => by have := (h.row.lt k hk).1; omega)) (by omega)⟩
set_option maxHeartbeats 8000000 in
set_option maxRecDepth 100000 in
theorem ziG (w : World) (roots : Int) (v iv sv : Value) (P : List (zn × Value)) (p : zS) (G G' : Nat -> Prop) (hv : yb w v G P) (hp : yg w iv sv G' p) (hf : YI p) (hI : p.items.length <= 1000) (hC : ∀ c ∈ zj P, c.fr.length <= 1000) :
    Calls Tryz.prog 140 #[.int .i64 roots, v, .agg #[iv, sv]] w (zk7 w roots (zj P) p) := by
  have HV := zb hv;have HP := zb hp;have HF := zb hf;obtain ⟨la, lcap, rfl, hl0, _⟩ := hv;obtain ⟨ia, ic, rfl⟩ := hp.items.shape;obtain ⟨sa, sc, rfl⟩ := hp.steps.shape;unfold maxLen at hl0;have CL := zO P;obtain ⟨T, hT⟩ : ∃ T : Nat -> Nat, T = tot (zj P) p.items := ⟨_, rfl⟩;obtain ⟨U, hU⟩ : ∃ U : Nat -> List Nat, U = ym (zj P) p.items := ⟨_, rfl⟩
  have TB := zb (fun k (hk : k <= p.items.length) => show T k <= 1000000 from by
    rw [hT];exact Nat.le_trans (ze6 hC p.items k) (by have := Nat.mul_le_mul_right 1000 (Nat.le_trans hk hI); omega))
  have TS := zb (fun k (x : zF) (hk : p.items[k]? = some x) => show T (k + 1) = T k + zeG (zj P) x.cert from by rw [hT]; exact zej hk);have T0 := zb (show T 0 = 0 from by rw [hT]; exact zcq _ _);have US := zb (fun k => show U (k + 1) = U k ++ [T k] from by rw [hU, hT]; exact zeK _ _ _);have UL := zb (fun k => show (U k).length = k from by rw [hU]; exact Ym _ _ _);have U0 := zb (show U 0 = [] from by rw [hU]; rfl);have hBE : zV (zj P) p.items = U (p.items.length + 1) := by rw [hU]; rfl
  have FRL := zb (fun (c : Nat) q (hq : P[c]? = some q) => show zeG (zj P) (c : Int) = q.1.fr.length from by
    unfold zeG;rw [Int.toNat_natCast, Zq hq])
  have FRM := zb (fun (c : Nat) q (hq : P[c]? = some q) => hC q.1 (List.mem_of_getElem? (Zq hq)));obtain ⟨IT, hIT⟩ : ∃ IT : Nat -> zF -> Bool, IT = zeD roots (zj P) p.items := ⟨_, rfl⟩;have CUT := zb (fun (q1 : 0 <= roots) (q2 : ∀ (k : Nat) x, p.items[k]? = some x -> IT k x = true) (q3 : yz roots (T p.items.length) p.steps = true) => show xG roots (zj P) p from ⟨q1, by rw [hIT] at q2; exact q2, by rw [hT] at q3; exact q3⟩);have NC0 := zb (fun (q : roots < 0) => show ¬ xG roots (zj P) p from fun h => by have := h.root; omega)
  have NCI := zb (fun (k : Nat) x (hk : p.items[k]? = some x) (q : IT k x = false) => show ¬ xG roots (zj P) p from fun h => by
    have := h.item k x hk;rw [hIT] at q;rw [q] at this;cases this)
  have NCL := zb (fun (q : yz roots (T p.items.length) p.steps = false) => show ¬ xG roots (zj P) p from fun h => by
    have := h.last;rw [hT] at q;rw [q] at this;cases this)
  have IB := zb (fun (k : Nat) (x : zF) => show IT k x = (decide (0 <= x.cert) && (decide (x.cert < P.length) && x.paths.all (yz roots (T k)))) from by rw [hIT, hT]; unfold zeD; rw [CL]);unfold zk7;generalize xG roots (zj P) p = CO at *;rw [hBE];clear CL hBE hT hU hIT hp hf hC;have k1 := zh (fun _ => False) w (.cells #[.slice ia p.items.length ic, .slice sa p.steps.length sc] 83);have k2 := zh (fun _ => False) (w.alloc (.cells #[.slice ia p.items.length ic, .slice sa p.steps.length sc] 83)) (.cells #[.int .i64 0, .slice none 0 0] 217);have o1 := zf (w.alloc (.cells #[.slice ia p.items.length ic, .slice sa p.steps.length sc] 83)) (.cells #[.int .i64 0, .slice none 0 0] 217);rw [World.size_alloc] at o1;go_enter Tryz.func140, Tryz.ntmps140;by_cases hr : roots < 0
  · have g1 : decide (roots < 0) = true := decide_eq_true hr
    have O1 := zb o1;have K12 := zb (k1.trans k2);have d0 := ze (o := 0) o1 rfl;have e0 := zk (o := 0) o1;have d1 := ze (o := 1) o1 rfl;have e1 := zk (o := 1) o1;clear k1 k2 o1;go_wp2;refine bodyPost_ret (v := .tuple #[.agg #[.int .i64 0, .slice none 0 0], .int .i64 2]) (by simp [results, Tryz.results140, go_sem, d0, d1]) rfl ?_;exact ⟨K12.out, .inr ⟨NC0.out hr, rfl⟩⟩
  have g1 : decide (roots < 0) = false := decide_eq_false hr;clear k1 k2 o1 NC0;have NS := zb (zgS w roots (.slice ia p.items.length ic) (.slice sa p.steps.length sc));go_wp2_with fail;generalize ((w.alloc (.cells #[.slice ia p.items.length ic, .slice sa p.steps.length sc] 83)).alloc (.cells #[.int .i64 0, .slice none 0 0] 217)).alloc (.cells #[.int .i64 roots, .slice none 0 0] 217) = w1 at *;go_loopw [9, 22] (fun tv kv wr => ∃ (k : Nat) (bv : Value), k <= p.items.length ∧ tv = .int .i64 (T k : Int) ∧ kv = .int .i64 k ∧ Hid ((∀ (j : Nat) x, j < k -> p.items[j]? = some x -> IT j x = true) ∧ zb4 w wr roots (.slice ia p.items.length ic) (.slice sa p.steps.length sc) bv (U k))) (fun _ kv _ => p.items.length - (intOf kv).toNat)
  case atStart => exact ⟨0, _, by omega, by rw [T0.out]; rfl, rfl, zb ⟨fun j x hj => by omega, by rw [U0.out]; exact NS.out⟩⟩
  case round =>
    obtain ⟨k, bv, hk, rfl, rfl, HI⟩ := hrel;have ALL := zb HI.out.1;have NI := zb HI.out.2;clear HI NS;have tk := TB.out k hk;by_cases hlt : k < p.items.length
    · obtain ⟨⟨cert, paths⟩, hx⟩ : ∃ x, p.items[k]? = some x := ⟨_, List.getElem?_eq_getElem hlt⟩
      have HX := zb hx;obtain ⟨_, _, e1, _, hcl⟩ := HP.out.items.chg NI.out.ch (fun _ _ e => e);cases e1;obtain ⟨lb, lo, pv, rfl, _, i0, i1, hpa⟩ := hcl k _ hx;simp only at i0 i1 hpa;have hpl := hpa.len;obtain ⟨pa, pc, rfl⟩ := hpa.shape;have fx := (HF.out.items _ (List.mem_of_getElem? hx));have PF := zb fx.2;obtain ⟨fx1, fx2⟩ := fx.1;simp only at fx1 fx2;have kb := zh (fun _ => False) wr (.cells #[.int .i64 cert, .slice pa paths.length pc] 98);have OX := zb (zf wr (.cells #[.int .i64 cert, .slice pa paths.length pc] 98));have NB := zb (NI.out.chg kb);have HPA := zb (hpa.chg kb (fun _ _ e => e));have ITF := zb (fun (q : IT k ⟨cert, paths⟩ = false) => NCI.out k _ hx q)
      have ITT := zb (fun (q : IT k ⟨cert, paths⟩ = true) => show ∀ (j : Nat) x, j < k + 1 -> p.items[j]? = some x -> IT j x = true from fun j x hj hs => by
        rcases Nat.lt_or_ge j k with z | z
        · exact ALL.out j x z hs
        · obtain rfl : j = k := by omega
          rw [hx] at hs; cases hs; exact q)
      have IBK := zb (IB.out k ⟨cert, paths⟩);have TSK := zb (TS.out k _ hx);clear hcl hx kb fx hpa NI ALL;go_upto_region 8 with fail;generalize wr.alloc (.cells #[.int .i64 cert, .slice pa paths.length pc] 98) = wa at *;generalize wr.heap.size = bx at *;have x0 := ze (o := 0) OX.out rfl;have x1 := ze (o := 1) OX.out rfl;by_cases hc0 : cert < 0
      · have g2 : decide (cert < 0) = true := decide_eq_true hc0
        have R := zb (ITF.out (by rw [IBK.out]; (try simp only); rw [decide_eq_false (by omega)]; rfl));clear hc0;have d0 := ze (o := 0) NB.out.o1 rfl;have e0 := zk (o := 0) NB.out.o1;have d1 := ze (o := 1) NB.out.o1 rfl;have e1 := zk (o := 1) NB.out.o1;go_wp2;obtain ⟨W, hW⟩ : ∃ W, W = (wa.setCell ⟨w.heap.size + 1, 0, none⟩ (.int .i64 0)).setCell ⟨w.heap.size + 1, 1, none⟩ (.slice none 0 0) := ⟨_, rfl⟩;rw [<- hW];obtain ⟨ob, kW, _⟩ := NB.out.last _ _ hW;clear hW;have z0 : W.cell? ⟨w.heap.size + 1, 0, none⟩ = some (.int .i64 0) := ze ob rfl;have z1 : W.cell? ⟨w.heap.size + 1, 1, none⟩ = some (.slice none 0 0) := ze ob rfl;refine bodyPost_ret (v := .tuple #[.agg #[.int .i64 0, .slice none 0 0], .int .i64 2]) (by simp [results, Tryz.results140, go_sem, z0, z1]) rfl ?_;exact ⟨kW, .inr ⟨R.out, rfl⟩⟩
      have g2 : decide (cert < 0) = false := decide_eq_false hc0;obtain ⟨c, rfl⟩ : ∃ c : Nat, cert = (c : Int) := ⟨cert.toNat, by omega⟩;by_cases hc1 : c < P.length
      rotate_left
      · have g3 : decide ((P.length : Int) <= (c : Int)) = true := decide_eq_true (by omega)
        have g4 : decide (P.length <= c) = true := decide_eq_true (by omega);have R := zb (ITF.out (by rw [IBK.out]; (try simp only); rw [decide_eq_true (p := (0 : Int) <= (c : Int)) (by omega), decide_eq_false (p := (c : Int) < (P.length : Int)) (by omega)]; rfl));have d0 := ze (o := 0) NB.out.o1 rfl;have e0 := zk (o := 0) NB.out.o1;have d1 := ze (o := 1) NB.out.o1 rfl;have e1 := zk (o := 1) NB.out.o1;go_wp2;obtain ⟨W, hW⟩ : ∃ W, W = (wa.setCell ⟨w.heap.size + 1, 0, none⟩ (.int .i64 0)).setCell ⟨w.heap.size + 1, 1, none⟩ (.slice none 0 0) := ⟨_, rfl⟩;rw [<- hW];obtain ⟨ob, kW, _⟩ := NB.out.last _ _ hW;clear hW;have z0 : W.cell? ⟨w.heap.size + 1, 0, none⟩ = some (.int .i64 0) := ze ob rfl;have z1 : W.cell? ⟨w.heap.size + 1, 1, none⟩ = some (.slice none 0 0) := ze ob rfl;refine bodyPost_ret (v := .tuple #[.agg #[.int .i64 0, .slice none 0 0], .int .i64 2]) (by simp [results, Tryz.results140, go_sem, z0, z1]) rfl ?_;exact ⟨kW, .inr ⟨R.out, rfl⟩⟩
      have g3 : decide ((P.length : Int) <= (c : Int)) = false := decide_eq_false (by omega);have g4 : decide (P.length <= c) = false := decide_eq_false (by omega);clear hc0;go_wp2;clear x0 x1;go_loopw [40] (fun jv wr => ∃ j : Nat, j <= paths.length ∧ jv = .int .i64 j ∧ Hid ((∀ (i : Nat) L, i < j -> paths[i]? = some L -> yz roots (T k) L = true) ∧ zb4 w wr roots (.slice (some ⟨lb, lo, none⟩) p.items.length ic) (.slice sa p.steps.length sc) bv (U k) ∧ Chg (fun _ => False) wa wr)) (fun jv _ => paths.length - (intOf jv).toNat)
      case atStart => exact ⟨0, by omega, rfl, zb ⟨fun j L hj => by omega, NB.out, Chg.refl _ _⟩⟩
      case round =>
        obtain ⟨j, hj, rfl, HJ⟩ := hrel;have ALJ := zb HJ.out.1;have NJ := zb HJ.out.2.1;have KJ := zb HJ.out.2.2;clear HJ;by_cases hjl : j < paths.length
        · obtain ⟨L, hL⟩ : ∃ L, paths[j]? = some L := ⟨_, List.getElem?_eq_getElem hjl⟩
          obtain ⟨_, _, e1, _, hcl⟩ := HPA.out.chg KJ.out (fun _ _ e => e);cases e1;obtain ⟨lb2, lo2, pv2, rfl, _, q0, hst⟩ := hcl j L hL;obtain ⟨qa, qc, rfl⟩ := hst.shape;have SA := zb (ze8 wr roots bv (.slice qa L.length qc) G' L (T k) hst.at_ (PF.out L (List.mem_of_getElem? hL)) (by omega) (by omega));have c0 := ze (o := 0) NJ.out.o2 rfl;have c1 := ze (o := 1) NJ.out.o2 rfl
          have BAD := zb (fun (q : yz roots (T k) L = false) => ITF.out (by
            rw [IBK.out]
            try simp only
            have : paths.all (yz roots (T k)) = false := by
              cases hb : paths.all (yz roots (T k)) with
              | false => rfl
              | true =>
                have := List.all_eq_true.1 hb L (List.mem_of_getElem? hL);rw [q] at this;cases this
            rw [this, Bool.and_false, Bool.and_false]))
          have GOOD := zb (fun (q : yz roots (T k) L = true) => show ∀ (i : Nat) M, i < j + 1 -> paths[i]? = some M -> yz roots (T k) M = true from fun i M hi hM => by
            rcases Nat.lt_or_ge i j with z | z
            · exact ALJ.out i M z hM
            · obtain rfl : i = j := by omega
              rw [hL] at hM; cases hM; exact q)
          generalize yz roots (T k) L = bq at SA BAD GOOD;clear hcl hL hst ALJ;go_wp2_with fail;(with_reducible refine SA.out.mono ?_);rintro e w5 ⟨rfl, k5⟩;have N5 := zb (NJ.out.chg k5);have K5 := zb (KJ.out.trans k5);clear SA NJ KJ k5 c0 c1;cases bq with
          | false =>
            have R := zb (BAD.out rfl);have d0 := ze (o := 0) N5.out.o1 rfl;have e0 := zk (o := 0) N5.out.o1;have d1 := ze (o := 1) N5.out.o1 rfl;have e1 := zk (o := 1) N5.out.o1;go_wp2;obtain ⟨W, hW⟩ : ∃ W, W = (w5.setCell ⟨w.heap.size + 1, 0, none⟩ (.int .i64 0)).setCell ⟨w.heap.size + 1, 1, none⟩ (.slice none 0 0) := ⟨_, rfl⟩;rw [<- hW];obtain ⟨ob, kW, _⟩ := N5.out.last _ _ hW;clear hW;have z0 : W.cell? ⟨w.heap.size + 1, 0, none⟩ = some (.int .i64 0) := ze ob rfl;have z1 : W.cell? ⟨w.heap.size + 1, 1, none⟩ = some (.slice none 0 0) := ze ob rfl;refine bodyPost_ret (v := .tuple #[.agg #[.int .i64 0, .slice none 0 0], .int .i64 2]) (by simp [results, Tryz.results140, go_sem, z0, z1]) rfl ?_;exact ⟨kW, .inr ⟨R.out, rfl⟩⟩
          | true =>
            have R := zb (GOOD.out rfl);go_wp2;go_roundw
            case rel => exact ⟨j + 1, by omega, by go_num, zb ⟨R.out, N5.out, K5.out⟩⟩
            case measure => simp [intOf]; omega
        · obtain rfl : j = paths.length := by omega
          have R := zb (ITT.out (by
            rw [IBK.out]
            try simp only
            have : paths.all (yz roots (T k)) = true := List.all_eq_true.2 (fun L hL => by
              obtain ⟨i, hi⟩ := List.mem_iff_getElem?.1 hL;exact ALJ.out i L (List.getElem?_eq_some_iff.1 hi).1 hi)
            rw [this, decide_eq_true (p := (0 : Int) <= (c : Int)) (by omega), decide_eq_true (p := (c : Int) < (P.length : Int)) (by omega)]; rfl))
          obtain ⟨ba, bc, rfl⟩ := zl NJ.out.row;have ul : (U k).length <= k := Nat.le_of_eq (UL.out k);have c1 := ze (o := 1) NJ.out.o2 rfl;have hbs : w.heap.size + 3 <= wr.heap.size := by have := zq NJ.out.o2; omega
          obtain ⟨pq, hpq⟩ : ∃ pq, P[c]? = some pq := ⟨_, List.getElem?_eq_getElem hc1⟩;have FR := FRL.out c pq hpq;have FM := FRM.out c pq hpq;have TE := zb (show T (k + 1) = T k + pq.1.fr.length from by rw [TSK.out]; (try simp only); rw [FR]);have tk1 := TB.out (k + 1) hlt;have HPQ := zb hpq;clear FR hpq ALJ;go_wp2_with (at_builtin; refine ZI rfl (.tmp 52) (.tmp 54) 36 rfl 3 1 8 Tryz.underlying36 Tryz.elemInt (w.heap.size + 3) (.slice ba (U k).length bc) (U k).length (yP (U k)) rfl (NJ.out.row.alloc _) _ [.int .i64 (T k : Int)] 3 (0, 0) rfl (zf _ _) rfl ?b1 ?b2 ?b3 ?b4 ?nx)
          case b1 => first | rfl | (intro u hu; simp at hu; subst hu; rfl)
          case b2 => omega
          case b3 => unfold maxLen; omega
          case b4 => first | omega | (rw [World.size_alloc]; omega)
          intro v5 w5 o5 g5;obtain ⟨a5, c5, rfl⟩ := zl o5;have ka := zh (fun _ => False) wr (.cells #[.int .i64 (T k : Int)] 3);have NA := NJ.out.chg ka;have NP := zb (NA.push g5 o5);have ow2 := NA.grown g5;have ox1 := (KJ.out.trans ka).obj (fun e => e) OX.out
          have ox2 := (Chg.of_grown g5).obj (fun e => by
            obtain ⟨cs, q⟩ := zz NA.row e;exact Zd q ox1 (by decide) rfl) ox1
          have ox3 := (zE w5 (w.heap.size + 2) 1 (.slice a5 ((U k).length + 1) c5)).obj (fun e => Zd ox2 ow2 (by decide) e) ox2;have x0 := ze (o := 0) ox3 rfl;have y1 := ze (o := 1) ow2 rfl;have f1 := zk (o := 1) ow2;have x1 : IntKind.i64.wrap ((T k : Int) + (pq.1.fr.length : Int)) = (T (k + 1) : Int) := by rw [TE.out, IntKind.wrap_i64] <;> omega
          obtain ⟨_, _, e1, _, hcv⟩ := HV.out.chg NP.out.ch (fun _ _ e => e);cases e1;obtain ⟨cg, co, csa, csc, rfl, _, _, _, _, _, cw3, _⟩ := hcv c pq HPQ.out;clear o5 g5 ka NA ow2 ox1 ox2 ox3 hcv NJ KJ c1;go_wp2;go_roundw
          case rel => exact ⟨k + 1, _, by omega, rfl, by go_num, zb ⟨R.out, by rw [US.out]; exact NP.out⟩⟩
          case measure => simp [intOf]; omega
    · obtain rfl : k = p.items.length := by omega
      have hst := HP.out.steps.chg NI.out.ch (fun _ _ e => e);have SA := zb (ze8 wr roots bv (.slice sa p.steps.length sc) G' p.steps (T p.items.length) hst.at_ HF.out.steps (by omega) (by omega));have c0 := ze (o := 0) NI.out.o2 rfl;have c1 := ze (o := 1) NI.out.o2 rfl;have p1 := ze (o := 1) NI.out.o0 rfl;have CK := zb (CUT.out (by omega) (fun k x hk => ALL.out k x (List.getElem?_eq_some_iff.1 hk).1 hk));have NK := zb NCL.out;generalize yz roots (T p.items.length) p.steps = bq at SA CK NK;clear hst;go_wp2_with fail;(with_reducible refine SA.out.mono ?_);rintro e w5 ⟨rfl, k5⟩;have N5 := zb (NI.out.chg k5);clear SA NI k5 c0 c1 p1;cases bq with
      | false =>
        have R := zb (NK.out rfl);have d0 := ze (o := 0) N5.out.o1 rfl;have e0 := zk (o := 0) N5.out.o1;have d1 := ze (o := 1) N5.out.o1 rfl;have e1 := zk (o := 1) N5.out.o1;go_wp2;obtain ⟨W, hW⟩ : ∃ W, W = (w5.setCell ⟨w.heap.size + 1, 0, none⟩ (.int .i64 0)).setCell ⟨w.heap.size + 1, 1, none⟩ (.slice none 0 0) := ⟨_, rfl⟩;rw [<- hW];obtain ⟨ob, kW, _⟩ := N5.out.last _ _ hW;clear hW;have z0 : W.cell? ⟨w.heap.size + 1, 0, none⟩ = some (.int .i64 0) := ze ob rfl;have z1 : W.cell? ⟨w.heap.size + 1, 1, none⟩ = some (.slice none 0 0) := ze ob rfl;refine bodyPost_ret (v := .tuple #[.agg #[.int .i64 0, .slice none 0 0], .int .i64 2]) (by simp [results, Tryz.results140, go_sem, z0, z1]) rfl ?_;exact ⟨kW, .inr ⟨R.out, rfl⟩⟩
      | true =>
        have R := zb (CK.out rfl);obtain ⟨ba, bc, rfl⟩ := zl N5.out.row;have ul : (U p.items.length).length <= p.items.length := Nat.le_of_eq (UL.out p.items.length);have c1 := ze (o := 1) N5.out.o2 rfl;have hbs : w.heap.size + 3 <= w5.heap.size := by have := zq N5.out.o2; omega
        go_wp2_with (at_builtin; refine ZI rfl (.tmp 75) (.tmp 77) 36 rfl 3 1 8 Tryz.underlying36 Tryz.elemInt (w.heap.size + 3) (.slice ba (U p.items.length).length bc) (U p.items.length).length (yP (U p.items.length)) rfl (N5.out.row.alloc _) _ [.int .i64 (T p.items.length : Int)] 3 (0, 0) rfl (zf _ _) rfl ?e1 ?e2 ?e3 ?e4 ?nx2)
        case e1 => first | rfl | (intro u hu; simp at hu; subst hu; rfl)
        case e2 => omega
        case e3 => unfold maxLen; omega
        case e4 => first | omega | (rw [World.size_alloc]; omega)
        intro v6 w6 o6 g6;obtain ⟨a6, c6, rfl⟩ := zl o6;have ka := zh (fun _ => False) w5 (.cells #[.int .i64 (T p.items.length : Int)] 3);have NA := N5.out.chg ka;have NP := NA.push g6 o6;rw [<- US.out] at NP;have NP := zb NP;have ow2 := NA.grown g6;have y1 := ze (o := 1) ow2 rfl;have f1 := zk (o := 1) ow2;have d0 := ze (o := 0) NP.out.o1 rfl;have e0 := zk (o := 0) NP.out.o1;have d1 := ze (o := 1) NP.out.o1 rfl;have e1 := zk (o := 1) NP.out.o1;have y0 := ze (o := 0) NP.out.o2 rfl;have y2 := ze (o := 1) NP.out.o2 rfl;clear o6 g6 ka NA ow2 N5 c1;go_wp2;obtain ⟨W, hW⟩ : ∃ W, W = ((w6.setCell ⟨w.heap.size + 2, 1, none⟩ (.slice a6 ((U p.items.length).length + 1) c6)).setCell ⟨w.heap.size + 1, 0, none⟩ (.int .i64 roots)).setCell ⟨w.heap.size + 1, 1, none⟩ (.slice a6 ((U p.items.length).length + 1) c6) := ⟨_, rfl⟩;rw [<- hW];obtain ⟨ob, kW, hrow⟩ := NP.out.last _ _ hW;clear hW;have z0 : W.cell? ⟨w.heap.size + 1, 0, none⟩ = some (.int .i64 roots) := ze ob rfl;have z1 : W.cell? ⟨w.heap.size + 1, 1, none⟩ = some (.slice a6 ((U p.items.length).length + 1) c6) := ze ob rfl;refine bodyPost_ret (v := .tuple #[.agg #[.int .i64 roots, .slice a6 ((U p.items.length).length + 1) c6], .int .i64 0]) (by simp [results, Tryz.results140, go_sem, z0, z1]) rfl ?_;have e9 : (U p.items.length).length + 1 = (U (p.items.length + 1)).length := by rw [UL.out, UL.out]
        rw [e9] at hrow ⊢;exact ⟨kW, .inl ⟨R.out, a6, c6, rfl, hrow⟩⟩
end Go.Proofs.YthdfplafihmejaaGreat
