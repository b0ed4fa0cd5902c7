/-
  Package proof: needed and its closure. Package proof: Cut's closure. Package proof: what Cut's walk leans on.
-/
import Derived.Test.YthdfplafihmejaaGreatZcQNum
import Derived.WalkMore
import Derived.StillTailTactics
namespace Go.Proofs.YthdfplafihmejaaGreat
open Go.RowKit Go.Maps
theorem zfs {w : World} {base : Nat} {e : TypeId} {size n g : Nat} {xs : List Value} (h : w.ownsRow base e size (.slice (some ⟨g, 0, none⟩) n n) n xs) : w.heap[g]? = some (.cells xs.toArray e (0, 0)) ∧ base <= g ∧ n <= maxLen := by
 obtain ⟨h1, ⟨q, _⟩ | ⟨g', cap, cur, q, hg, hh, q1, q2, q3, q4⟩⟩ := h
 ·cases q
 ·cases q
  refine ⟨?_, hg, q2⟩;rw [hh];have : cur.toList = xs := by rw [<- q4, List.take_of_length_le (by rw [Array.length_toList, q3]; exact Nat.le_refl _)]
  rw [<- this, Array.toArray_toList]
structure XC (w : World) (bn bd gn : Nat) (roots : Int) (ba : Option Addr) (bc base : Nat) (B : List Nat) (need : List Bool) : Prop where
 on : w.heap[bn]? = some (.cells #[.int .i64 roots, .slice ba B.length bc] 217 (0, 0))
 od : w.heap[bd]? = some (.cells #[.slice (some ⟨gn, 0, none⟩) need.length need.length] 145 (0, 0))
 nd : w.heap[gn]? = some (.cells (need.map Value.bool).toArray 4 (0, 0))
 row : w.ownsRow base 3 1 (.slice ba B.length bc) B.length (yP B)
theorem XC.chg {w w' : World} {bn bd gn : Nat} {roots : Int} {ba : Option Addr} {bc base : Nat} {B : List Nat} {need : List Bool} (h : XC w bn bd gn roots ba bc base B need) (k : Chg (fun _ => False) w w') : XC w' bn bd gn roots ba bc base B need :=
 ⟨k.obj (fun e => e) h.on, k.obj (fun e => e) h.od, k.obj (fun e => e) h.nd, zm h.row k (fun _ _ e => e)⟩
theorem XC.set {w : World} {bn bd gn i : Nat} {roots : Int} {ba : Option Addr} {bc base : Nat} {B : List Nat} {need : List Bool} (h : XC w bn bd gn roots ba bc base B need) : XC (w.setCell ⟨gn, i, none⟩ (.bool true)) bn bd gn roots ba bc base B (need.set i true) := by
 have kc := zE w gn i (.bool true);refine ⟨kc.obj (fun e => Zd h.on h.nd (by decide) e) h.on, ?_, ?_, zm h.row kc (fun k hk e => ?_)⟩
 ·rw [List.length_set]
  exact kc.obj (fun e => Zd h.od h.nd (by decide) e) h.od
 ·have := zr (o := i) h.nd (.bool true)
  rw [this]
  congr 2
  rw [List.map_set, List.setIfInBounds_toArray]
 ·obtain ⟨cs, q⟩ := zz h.row hk
  exact Zd q h.nd (by decide) e
def zk5 (roots : Int) (B : List Nat) (m : Nat) (l : zG) : Prop := ∀ s ∈ l, zbE s.2 ∧ (roots <= s.2 -> 1 <= B.countP (fun b => decide (b <= (s.2 - roots).toNat))) ∧ ∀ i, XE roots B s.2 = some i -> i < m
theorem zcs {roots : Int} {C : List zn} {I : List zF} {k : Nat} {l : zG} (hf : yT l) (hs : yz roots (tot C I k) l = true) (hk : k <= I.length) : zk5 roots (zV C I) I.length l := fun s hsl => by
 have h1 := List.all_eq_true.1 hs s hsl;refine ⟨(hf s hsl).2, fun hr => ?_, fun i hi => ?_⟩
 ·have e : XE roots (zV C I) s.2 = some ((zV C I).countP (fun b => decide (b <= (s.2 - roots).toNat)) - 1) := by
   unfold XE;rw [if_neg (by omega)]
  exact (zhI h1 hk e).2
 ·have := (zhI h1 hk hi).1
  omega
theorem zby (C : List zn) (I : List zF) : (zV C I).Pairwise (· <= ·) := by
 unfold zV ym;rw [List.pairwise_map];exact List.Pairwise.imp (fun h => zcr C I (Nat.le_of_lt h)) List.pairwise_lt_range
theorem ziK {roots : Int} {B : List Nat} {need : List Bool} {l : zG} {k : Nat} {s : Int × Int} (h : l[k]? = some s) : zbo roots B need (l.take (k + 1)) = zgV roots B (zbo roots B need (l.take k)) s := by
 unfold zbo;rw [List.take_add_one, h, List.foldl_append]; rfl
theorem ziJ {roots : Int} {B : List Nat} {need : List Bool} {ps : List zG} {k : Nat} {l : zG} (h : ps[k]? = some l) : zdB roots B need (ps.take (k + 1)) = zbo roots B (zdB roots B need (ps.take k)) l := by
 unfold zdB;rw [List.take_add_one, h, List.foldl_append]; rfl
set_option maxHeartbeats 4000000 in
set_option maxRecDepth 100000 in
theorem zhM (w : World) (bn bd gn : Nat) (roots : Int) (ba : Option Addr) (bc base : Nat) (B : List Nat) (need : List Bool) (sv : Value) (G : Nat -> Prop) (l : zG) (h : XC w bn bd gn roots ba bc base B need) (hl : yw w sv G l) (hG : ∀ k, G k -> k ≠ gn) (ho : zk5 roots B need.length l) (hs : B.Pairwise (· <= ·)) (h0 : 0 <= roots) (hB : 0 < B.length) (hB2 : B.length <= 1000000) :
  Calls Tryz.prog 161 #[sv, .pointer (some ⟨bn, 0, none⟩), .pointer (some ⟨bd, 0, none⟩)] w fun e w' => e = .returned (.tuple #[]) ∧ XC w' bn bd gn roots ba bc base B (zbo roots B need l) ∧ Chg (fun k => k = gn) w w' := by
 have HL := zb hl;obtain ⟨la, cap, rfl, hl0, _⟩ := hl;unfold maxLen at hl0;have H0 := zb h;have HG := zb hG;have HO := zb ho;have HS := zb hs;obtain ⟨T, hT⟩ : ∃ T : Nat -> List Bool, T = fun k => zbo roots B need (l.take k) := ⟨_, rfl⟩;have T0 := zb (show T 0 = need from by rw [hT]; rfl);have TS := zb (fun k (s : Int × Int) (hk : l[k]? = some s) => show T (k + 1) = zgV roots B (T k) s from by rw [hT]; exact ziK hk);have TL := zb (fun k => show (T k).length = need.length from by rw [hT]; exact xK _ _ _ _);have TF := zb (show zbo roots B need l = T l.length from by rw [hT]; simp only [List.take_length]);rw [TF.out];clear hT h hG ho hs;go_enter Tryz.func161, Tryz.ntmps161;go_wp2;go_loopw [10] (fun iv wr => ∃ k : Nat, k <= l.length ∧ iv = .int .i64 k ∧ Hid (XC wr bn bd gn roots ba bc base B (T k) ∧ Chg (fun k => k = gn) w wr)) (fun iv _ => l.length - (intOf iv).toNat)
 case atStart => exact ⟨0, by omega, rfl, zb ⟨by rw [T0.out]; exact H0.out, Chg.refl _ _⟩⟩
 case round =>
  obtain ⟨k, hk, rfl, HI⟩ := hrel;have MA := zb HI.out.1;have KC := zb HI.out.2;clear HI;by_cases hlt : k < l.length
  ·obtain ⟨⟨at_, r⟩, hx⟩ : ∃ s, l[k]? = some s := ⟨_, List.getElem?_eq_getElem hlt⟩
   obtain ⟨_, _, e1, _, hcl⟩ := HL.out.chg KC.out (fun k hk e => HG.out k hk e);cases e1;obtain ⟨lb, lo, rfl, _, x0, x1⟩ := hcl k _ hx;obtain ⟨hfit, hpos, hlt2⟩ := HO.out _ (List.mem_of_getElem? hx);simp only at x0 x1 hfit hpos hlt2;have E := zb (TS.out k _ hx);have tl := TL.out k;have LT2 := zb hlt2;have kb := zh (fun _ => False) wr (.cells #[.int .i64 at_, .int .i64 r] 153);have MB := zb (MA.out.chg kb);have KB := zb (KC.out.trans (kb.mono (fun _ _ e => e.elim)));have s1 := ze (o := 1) (zf wr (.cells #[.int .i64 at_, .int .i64 r] 153)) rfl;have n0 := ze (o := 0) MB.out.on rfl;have n1 := ze (o := 1) MB.out.on rfl;have OW := zfq (wr.alloc (.cells #[.int .i64 at_, .int .i64 r] 153)) roots r B ba bc base MB.out.row HS.out h0 hfit hB hB2 hpos;unfold zk6 at OW;have OW := zb OW;clear hcl hx kb MA KC hpos hlt2 hfit;go_wp2_with fail;generalize wr.alloc (.cells #[.int .i64 at_, .int .i64 r] 153) = wa at *;(with_reducible refine OW.out.mono ?_);rintro e w5 (⟨i, hi, rfl, k5⟩ | ⟨hi, rfl, k5⟩)
   ·have M5 := zb (MB.out.chg k5)
    have K5 := zb (KB.out.trans (k5.mono (fun _ _ e => e.elim)));have hin := LT2.out i hi;have EE := zb (show T (k + 1) = (T k).set i true from by rw [E.out]; unfold zgV; simp only; rw [hi]);have c0 := ze (o := 0) M5.out.od rfl;have il : i < (T k).length := by omega
    have c1 : w5.cell? ⟨gn, i, none⟩ = some (.bool ((T k)[i])) := ze (o := i) M5.out.nd (by simp [il]);have f1 := zk (o := i) M5.out.nd;have MN := zb (M5.out.set (i := i));have KN := zb (K5.out.trans (zE w5 gn i (.bool true)));generalize (T k)[i] = old at c1;clear hi OW MB KB n0 n1 s1 M5 K5;go_wp2;go_roundw
    case rel => exact ⟨k + 1, by omega, by go_num, zb ⟨by rw [EE.out]; exact MN.out, KN.out⟩⟩
    case measure => simp [intOf]; omega
   ·have M5 := zb (MB.out.chg k5)
    have K5 := zb (KB.out.trans (k5.mono (fun _ _ e => e.elim)));have EE := zb (show T (k + 1) = T k from by rw [E.out]; unfold zgV; simp only; rw [hi]);clear hi OW MB KB n0 n1 s1;go_wp2;go_roundw
    case rel => exact ⟨k + 1, by omega, by go_num, zb ⟨by rw [EE.out]; exact M5.out, K5.out⟩⟩
    case measure => simp [intOf]; omega
  ·obtain rfl : k = l.length := by omega
   go_wp2;go_end0;exact ⟨rfl, MA.out, KC.out⟩
theorem zok (n : Nat) : (madeCells #[Value.bool false] n).toList = (List.replicate n false).map Value.bool := by
 rw [zad];unfold YR;rw [List.map_replicate];apply List.ext_getElem?;intro i;rw [List.getElem?_map, List.getElem?_replicate];by_cases h : i < n
 ·rw [List.getElem?_range h, if_pos h]
  simp
 ·rw [List.getElem?_eq_none (by rw [List.length_range]; omega), if_neg h]; rfl
def zk8 (w : World) (need : List Bool) (e : Ending) (w' : World) : Prop := ∃ g, e = .returned (.slice (some ⟨g, 0, none⟩) need.length need.length) ∧ w'.heap[g]? = some (.cells (need.map Value.bool).toArray 4 (0, 0)) ∧ w.heap.size <= g ∧ Chg (fun _ => False) w w'
theorem zhe {roots : Int} {B : List Nat} {I : List zF} {k : Nat} {x : zF} {nd : List Bool} (hx : I[k]? = some x) (hn : nd[k]? = some true) : xN roots B I (k + 1) nd = xN roots B I k (zdB roots B nd x.paths) := by
 show xN roots B I k (zhg roots B I nd k) = _
 congr 1
 unfold zhg;rw [hn];simp only;rw [hx]
theorem zhf {roots : Int} {B : List Nat} {I : List zF} {k : Nat} {nd : List Bool} (hn : nd[k]? = some false) : xN roots B I (k + 1) nd = xN roots B I k nd := by
 show xN roots B I k (zhg roots B I nd k) = _
 congr 1
 unfold zhg;rw [hn]
set_option maxHeartbeats 8000000 in
set_option maxRecDepth 100000 in
theorem ziI (w : World) (roots : Int) (ba : Option Addr) (bc base : Nat) (C : List zn) (iv sv : Value) (p : zS) (G : Nat -> Prop) (hrow : w.ownsRow base 3 1 (.slice ba (zV C p.items).length bc) (zV C p.items).length (yP (zV C p.items))) (hp : yg w iv sv G p) (hG : ∀ k, G k -> k < w.heap.size) (hf : YI p) (hc : xG roots C p) (hI : p.items.length <= 1000) :
  Calls Tryz.prog 141 #[.agg #[.int .i64 roots, .slice ba (zV C p.items).length bc], .agg #[iv, sv]] w (zk8 w (zdA roots (zV C p.items) p)) := by
 have HP := zb hp;obtain ⟨ia, ic, rfl⟩ := hp.items.shape;obtain ⟨sa, sc, rfl⟩ := hp.steps.shape;have HG := zb hG;have hBl : 0 < (zV C p.items).length := by rw [Xw]; omega
 have hBl2 : (zV C p.items).length <= 1000000 := by rw [Xw]; omega
 have OWS := zb (zcs hf.steps hc.last (Nat.le_refl _))
 have OWP := zb (fun (k : Nat) x (hk : p.items[k]? = some x) (l : zG) (hl : l ∈ x.paths) => show zk5 roots (zV C p.items) p.items.length l from by
  have h1 := hc.item k x hk;unfold zeD at h1;rw [Bool.and_eq_true, Bool.and_eq_true] at h1;have hkl := (List.getElem?_eq_some_iff.1 hk).1;exact zcs ((hf.items x (List.mem_of_getElem? hk)).2 l hl) (List.all_eq_true.1 h1.2.2 l hl) (by omega))
 have SRT := zb (zby C p.items);have h0 := hc.root;have NB := zb (show zdA roots (zV C p.items) p = xN roots (zV C p.items) p.items p.items.length (zbo roots (zV C p.items) (List.replicate p.items.length false) p.steps) from rfl);have NL := zb (zcb roots (zV C p.items) p);have ROW := zb hrow;obtain ⟨B, hB⟩ : ∃ B : List Nat, B = zV C p.items := ⟨_, rfl⟩;rw [<- hB] at hBl hBl2 OWS OWP SRT NB NL ROW ⊢;clear hp hG hf hc hrow hB;generalize zdA roots B p = res at *;have k1 := zh (fun _ => False) w (.cells #[.int .i64 roots, .slice ba B.length bc] 217);have k2 := zh (fun _ => False) (w.alloc (.cells #[.int .i64 roots, .slice ba B.length bc] 217)) (.cells #[.slice ia p.items.length ic, .slice sa p.steps.length sc] 83);have o2 := zf (w.alloc (.cells #[.int .i64 roots, .slice ba B.length bc] 217)) (.cells #[.slice ia p.items.length ic, .slice sa p.steps.length sc] 83);have z1 : (w.alloc (.cells #[.int .i64 roots, .slice ba B.length bc] 217)).heap.size = w.heap.size + 1 := World.size_alloc _ _;rw [z1] at o2;have ON := zb (k2.obj (fun e => e) (zf w (.cells #[.int .i64 roots, .slice ba B.length bc] 217)));have OP := zb o2;have K2 := zb (k1.trans k2);have hs2 : ((w.alloc (.cells #[.int .i64 roots, .slice ba B.length bc] 217)).alloc (.cells #[.slice ia p.items.length ic, .slice sa p.steps.length sc] 83)).heap.size = w.heap.size + 2 := by rw [World.size_alloc, z1]
 have p0 : ((w.alloc (.cells #[.int .i64 roots, .slice ba B.length bc] 217)).alloc (.cells #[.slice ia p.items.length ic, .slice sa p.steps.length sc] 83)).cell? ⟨w.heap.size + 1, 0, none⟩ = some (.slice ia p.items.length ic) := ze (o := 0) o2 rfl;obtain ⟨bi, hbi, hbz, hb1, hb2⟩ := Tryz.boolInfo;have HS2 := zb hs2;clear k1 k2 o2 z1 hs2;go_enter Tryz.func141, Tryz.ntmps141;go_wp2_with fail;go_step3;go_wp2_with (at_make; refine wpList_make_full _ rfl (.tmp 12) (.tmp 12) 145 rfl w.heap.size 4 bi (.bool false) 1 Tryz.underlying145 hbi hbz hb1 .i64 .i64 (p.items.length : Int) (p.items.length : Int) p.items.length rfl rfl rfl rfl ?b2 ?b3 ?b4 ?next)
 case b2 => rw [hb2]; omega
 case b3 => unfold maxLen; omega
 case b4 => first | omega | (rw [HS2.out]; omega)
 intro w4 own4 g4;have k4 := (Chg.of_grown g4).mono (T := fun _ => False) (fun _ _ e => by cases e);obtain ⟨hnd, _, _⟩ := zfs own4;have hmb := zok p.items.length
 have hgs : w.heap.size + 1 + 1 < w4.heap.size := by
  have := (own4.lt _ rfl).2;have e := HS2.out;omega
 have K4 := zb (K2.out.trans k4);have ON4 := zb (k4.obj (fun e => e) ON.out);have OP4 := zb (k4.obj (fun e => e) OP.out)
 have ND4 := zb (show w4.heap[w.heap.size + 1 + 1]? = some (.cells ((List.replicate p.items.length false).map Value.bool).toArray 4 (0, 0)) from by
  rw [<- hmb]
  first | exact hnd | (have e := HS2.out; rw [e] at hnd; exact hnd) | simpa using hnd)
 clear own4 g4 hnd hmb k4 K2 ON OP HS2 p0 hbi hbz hb1 hb2;have ka := zh (fun _ => False) w4 (.cells #[.slice (some ⟨w.heap.size + 1 + 1, 0, none⟩) p.items.length p.items.length] 145)
 have MA := zb (show XC (w4.alloc (.cells #[.slice (some ⟨w.heap.size + 1 + 1, 0, none⟩) p.items.length p.items.length] 145)) w.heap.size w4.heap.size (w.heap.size + 1 + 1) roots ba bc base B (List.replicate p.items.length false) from
  ⟨ka.obj (fun e => e) ON4.out, by rw [List.length_replicate]; exact zf _ _, ka.obj (fun e => e) ND4.out, zm ROW.out (K4.out.trans ka) (fun _ _ e => e)⟩)
 have KA := zb (K4.out.trans ka);have OPA := zb (ka.obj (fun e => e) OP4.out);have q1 := ze (o := 1) OPA.out rfl;have MK := zhM (w4.alloc (.cells #[.slice (some ⟨w.heap.size + 1 + 1, 0, none⟩) p.items.length p.items.length] 145)) w.heap.size w4.heap.size (w.heap.size + 1 + 1) roots ba bc base B (List.replicate p.items.length false) (.slice sa p.steps.length sc) G p.steps MA.out (HP.out.steps.chg KA.out (fun _ _ e => e)).at_ (fun k hk e => by have := HG.out k hk; omega) (by rw [List.length_replicate]; exact OWS.out) SRT.out h0 hBl hBl2;have MK := zb MK;clear ka K4 ON4 OP4 ND4;go_wp2_with fail;generalize w4.alloc (.cells #[.slice (some ⟨w.heap.size + 1 + 1, 0, none⟩) p.items.length p.items.length] 145) = w5 at *;have GNE := zb (show ∀ k, G k -> k ≠ w.heap.size + 1 + 1 from fun k hk e => by have := HG.out k hk; omega);have LOW : w.heap.size <= w.heap.size + 1 + 1 := by omega
 have hpn : w.heap.size + 1 ≠ w.heap.size + 1 + 1 := by omega
 have HPN := zb hpn;clear hpn;generalize w4.heap.size = bd at *;generalize w.heap.size + 1 + 1 = gn at *;(with_reducible refine MK.out.mono ?_);rintro e w6 ⟨rfl, m6, k6⟩;have M6 := zb m6;have OP6 := zb (k6.obj HPN.out OPA.out);have KG6 := zb (show Chg (fun k => k = gn) w5 w6 from k6);clear MK MA OPA q1 m6 k6;have q0 := ze (o := 0) OP6.out rfl;go_wp2_with fail;go_step3;go_wp2_with fail;clear q0;have START := zb (show (zbo roots B (List.replicate p.items.length false) p.steps).length = p.items.length from by rw [xK, List.length_replicate]);go_loopw [7] (fun iv wr => ∃ (k : Nat) (nd : List Bool), k <= p.items.length ∧ iv = .int .i64 ((k : Int) - 1) ∧ Hid (XC wr w.heap.size bd gn roots ba bc base B nd ∧ Chg (fun k => k = gn) w6 wr ∧ nd.length = p.items.length ∧ res = xN roots B p.items k nd)) (fun iv _ => (intOf iv + 1).toNat)
 case atStart => exact ⟨p.items.length, _, Nat.le_refl _, by first | rfl | simp, zb ⟨M6.out, Chg.refl _ _, START.out, NB.out⟩⟩
 case round =>
  obtain ⟨k, nd, hk, rfl, HI⟩ := hrel;have MA := zb HI.out.1;have KC := zb HI.out.2.1;have NDL := zb HI.out.2.2.1;have RES := zb HI.out.2.2.2;clear HI;cases k with
  | zero =>
   have g1 : decide ((0 : Int) <= ((0 : Nat) : Int) - 1) = false := decide_eq_false (by omega);have g2 : decide ((0 : Int) <= -1) = false := decide_eq_false (by omega);have c0 := ze (o := 0) MA.out.od rfl;go_wp2;rw [Exit.noGoto_ret];go_ret;have e : res = nd := RES.out;rw [e];exact ⟨gn, rfl, MA.out.nd, LOW, KA.out.next (KG6.out.trans KC.out) (fun i hi e => by omega)⟩
  | succ k =>
   have e1 : ((k + 1 : Nat) : Int) - 1 = (k : Int) := by omega
   rw [e1];clear e1;have hkl : k < p.items.length := hk;have hkn : k < nd.length := by rw [NDL.out]; exact hkl
   obtain ⟨x, hx⟩ : ∃ x, p.items[k]? = some x := ⟨_, List.getElem?_eq_getElem hkl⟩;have g1 : decide ((0 : Int) <= (k : Int)) = true := decide_eq_true (by omega);have x1 : IntKind.i64.wrap ((k : Int) - 1) = (k : Int) - 1 := by rw [IntKind.wrap_i64] <;> omega
   have c0 := ze (o := 0) MA.out.od rfl;obtain ⟨bq, hbq⟩ : ∃ bq, nd[k]? = some bq := ⟨_, List.getElem?_eq_getElem hkn⟩;have c1 : wr.cell? ⟨gn, k, none⟩ = some (.bool bq) := ze (o := k) MA.out.nd (by rw [List.getElem?_toArray, List.getElem?_map, hbq]; rfl);have SKIP := zb (fun (q : bq = false) => show res = xN roots B p.items k nd from RES.out.trans (zhf (by rw [hbq, q])));have STEP := zb (fun (q : bq = true) => show res = xN roots B p.items k (zdB roots B nd x.paths) from RES.out.trans (zhe hx (by rw [hbq, q])));have OWX := zb (OWP.out k x hx);have hkm : (k : Int) < (nd.length : Int) := by omega
   cases bq with
   | false =>
    have R := zb (SKIP.out rfl);clear hbq SKIP STEP RES OWX hx;go_wp2;go_roundw
    case rel => exact ⟨k, nd, by omega, by first | rfl | simp, zb ⟨MA.out, KC.out, NDL.out, R.out⟩⟩
    case measure => simp [intOf]
   | true =>
    have R := zb (STEP.out rfl);have K0 := zb (KA.out.next (KG6.out.trans KC.out) (fun i hi e => by omega));obtain ⟨_, _, e1, _, hcl⟩ := HP.out.items;cases e1;obtain ⟨lb, lo, pv, rfl, _, i0, i1', hpa⟩ := hcl k _ hx;have i1 := zi K0.out (fun e => e) i1';have hpl := hpa.len;obtain ⟨pa, pc, rfl⟩ := hpa.shape;have q0 := ze (o := 0) (KC.out.obj HPN.out OP6.out) rfl;have HPA := zb hpa;obtain ⟨cert, paths⟩ := x;simp only at i1 hpl HPA R OWX;clear hcl hbq SKIP STEP RES hx hpa i0 i1';go_wp2_with fail;clear q0 i1 c0 c1;obtain ⟨T, hT⟩ : ∃ T : Nat -> List Bool, T = fun j => zdB roots B nd (paths.take j) := ⟨_, rfl⟩;have T0 := zb (show T 0 = nd from by rw [hT]; rfl);have TS := zb (fun j (l : zG) (hj : paths[j]? = some l) => show T (j + 1) = zbo roots B (T j) l from by rw [hT]; exact ziJ hj);have TL := zb (fun j => show (T j).length = p.items.length from by rw [hT]; exact (zcc _ _ _ _).trans NDL.out);have TF := zb (show zdB roots B nd paths = T paths.length from by rw [hT]; simp only [List.take_length]);rw [TF.out] at R;clear hT TF;go_loopw [39] (fun jv wr => ∃ j : Nat, j <= paths.length ∧ jv = .int .i64 j ∧ Hid (XC wr w.heap.size bd gn roots ba bc base B (T j) ∧ Chg (fun k => k = gn) w6 wr)) (fun jv _ => paths.length - (intOf jv).toNat)
    case atStart => exact ⟨0, by omega, rfl, zb ⟨by rw [T0.out]; exact MA.out, KC.out⟩⟩
    case round =>
     obtain ⟨j, hj, rfl, HJ⟩ := hrel;have MJ := zb HJ.out.1;have KJ := zb HJ.out.2;clear HJ;by_cases hjl : j < paths.length
     ·obtain ⟨l, hl⟩ : ∃ l, paths[j]? = some l := ⟨_, List.getElem?_eq_getElem hjl⟩
      have KW := zb (KA.out.next (KG6.out.trans KJ.out) (fun i hi e => by omega));obtain ⟨_, _, e1, _, hcl⟩ := HPA.out.chg KW.out (fun _ _ e => e);cases e1;obtain ⟨lb2, lo2, pv2, rfl, _, q0, hst⟩ := hcl j l hl;obtain ⟨qa, qc, rfl⟩ := hst.shape;have MK := zb (zhM wr w.heap.size bd gn roots ba bc base B (T j) (.slice qa l.length qc) G l MJ.out hst.at_ GNE.out (by rw [TL.out]; exact OWX.out l (List.mem_of_getElem? hl)) SRT.out h0 hBl hBl2);have E := zb (TS.out j l hl);clear hcl hl hst;go_wp2_with fail;(with_reducible refine MK.out.mono ?_);rintro e w8 ⟨rfl, m8, k8⟩;have M8 := zb m8;have K8 := zb (KJ.out.trans k8);clear MK MJ KJ m8 k8 q0;go_wp2;go_roundw
      case rel => exact ⟨j + 1, by omega, by go_num, zb ⟨by rw [E.out]; exact M8.out, K8.out⟩⟩
      case measure => simp [intOf]; omega
     ·obtain rfl : j = paths.length := by omega
      go_wp2;go_roundw
      case rel => exact ⟨k, _, by omega, by first | rfl | simp, zb ⟨MJ.out, KJ.out, TL.out _, R.out⟩⟩
      case measure => simp [intOf]
def ZU (l : zG) : List Value := l.flatMap fun s => [.int .i64 s.1, .int .i64 s.2]
theorem zbi (l : zG) : (ZU l).length = l.length * 2 := by
 induction l with
 | nil => rfl
 | cons s l ih =>
  have : ZU (s :: l) = [.int .i64 s.1, .int .i64 s.2] ++ ZU l := rfl;rw [this, List.length_append, ih, List.length_cons]; simp; omega
theorem zas : ∀ {l : zG} {j : Nat} {s : Int × Int}, l[j]? = some s -> (ZU l)[j * 2]? = some (.int .i64 s.1) ∧ (ZU l)[j * 2 + 1]? = some (.int .i64 s.2)
 | s :: l, 0, t, h => by
  simp at h;subst h;exact ⟨rfl, rfl⟩
 | s :: l, j + 1, t, h => by
  have e : ZU (s :: l) = [.int .i64 s.1, .int .i64 s.2] ++ ZU l := rfl;obtain ⟨h1, h2⟩ := zas (l := l) (j := j) (by simpa using h);rw [e];refine ⟨?_, ?_⟩
  ·rw [List.getElem?_append_right (by simp; omega), <- h1]
   congr 1
   simp; omega
  ·rw [List.getElem?_append_right (by simp; omega), <- h2]
   congr 1
   simp; omega
theorem zip (l : zG) : ∀ v ∈ ZU l, v.oneCell' = true := by
 intro v hv;unfold ZU at hv;obtain ⟨s, _, hv⟩ := List.mem_flatMap.1 hv;simp only [List.mem_cons, List.not_mem_nil, or_false] at hv;rcases hv with rfl | rfl <;> rfl
theorem zdO : ∀ {l : zG} {j : Nat} {s : Int × Int} (r : Int), l[j]? = some s -> (ZU l).set (j * 2 + 1) (.int .i64 r) = ZU (l.set j (s.1, r))
 | s :: l, 0, t, r, h => by
  simp at h;subst h;rfl
 | s :: l, j + 1, t, r, h => by
  have e : ZU (s :: l) = .int .i64 s.1 :: .int .i64 s.2 :: ZU l := rfl;have e2 : ZU ((s :: l).set (j + 1) (t.1, r)) = .int .i64 s.1 :: .int .i64 s.2 :: ZU (l.set j (t.1, r)) := rfl;rw [e, e2, <- zdO r (l := l) (by simpa using h)];rw [show (j + 1) * 2 + 1 = (j * 2 + 1) + 1 + 1 from by omega];rfl
theorem zbM {w : World} {base : Nat} {v : Value} {l : zG} (h : w.ownsRow base 153 2 v l.length (ZU l)) : Yn w v (fun k => v.ownBlock = some k) l := by
 have h0 := h;obtain ⟨h1, ⟨rfl, h2⟩ | ⟨g, cap, cur, rfl, hg, hh, q1, q2, q3, q4⟩⟩ := h
 ·refine ⟨⟨none, 0, by rw [h2], by rw [h2]; unfold maxLen; omega, fun j x hj => ?_⟩, fun n c e => by cases e; exact ⟨rfl, rfl⟩⟩
  have : j < l.length := (List.getElem?_eq_some_iff.1 hj).1;omega
 ·refine ⟨⟨_, cap, rfl, by omega, fun j s hj => ?_⟩, fun n c e => by cases e⟩
  have hjl := (List.getElem?_eq_some_iff.1 hj).1;obtain ⟨c1, c2⟩ := zas hj;refine ⟨g, 0, rfl, rfl, ?_, ?_⟩
  ·rw [Nat.zero_add, h0.cellAt (j := j * 2) (by omega)]; exact c1
  ·rw [Nat.zero_add, h0.cellAt (j := j * 2 + 1) (by omega)]; exact c2
theorem zjv {w : World} {la : Option Addr} {n cap : Nat} {G : Nat -> Prop} {l : zG} (h : yw w (.slice la n cap) G l) : ∀ (j : Nat) u, (ZU l)[j]? = some u -> ∃ g o, la = some ⟨g, o, none⟩ ∧ w.cell? ⟨g, o + j, none⟩ = some u := by
 obtain ⟨la', cap', e, _, hc⟩ := h;cases e;intro j u hj;have hjl := (List.getElem?_eq_some_iff.1 hj).1;rw [zbi] at hjl;have hk : j / 2 < l.length := by omega
 obtain ⟨s, hs⟩ : ∃ s, l[j / 2]? = some s := ⟨_, List.getElem?_eq_getElem hk⟩;obtain ⟨g, o, e1, _, c0, c1⟩ := hc _ s hs;obtain ⟨q0, q1⟩ := zas hs;refine ⟨g, o, e1, ?_⟩;rcases Nat.mod_two_eq_zero_or_one j with z | z
 ·have e : j = j / 2 * 2 := by omega
  rw [e, q0] at hj;rw [e, <- Option.some.inj hj];exact c0
 ·have e : j = j / 2 * 2 + 1 := by omega
  rw [e, q1] at hj;rw [e, <- Option.some.inj hj, <- Nat.add_assoc];exact c1
theorem zfr {w : World} {base : Nat} {e : TypeId} {size n cap g : Nat} {xs : List Value} (h : w.ownsRow base e size (.slice (some ⟨g, 0, none⟩) n cap) n xs) {i : Nat} (u : Value) : (w.setCell ⟨g, i, none⟩ u).ownsRow base e size (.slice (some ⟨g, 0, none⟩) n cap) n (xs.set i u) := by
 obtain ⟨h1, ⟨q, _⟩ | ⟨g', cap', cur, q, hg, hh, q1, q2, q3, q4⟩⟩ := h
 ·cases q
 ·cases q
  refine ⟨by rw [List.length_set]; exact h1, .inr ⟨g, cap, cur.setIfInBounds i u, rfl, hg, zr hh u, q1, q2, by rw [Array.size_setIfInBounds]; exact q3, ?_⟩⟩;rw [Array.toList_setIfInBounds, List.take_set, q4]
set_option maxRecDepth 100000 in
theorem zio (w : World) (ra : Option Addr) (l : zG) (rc : Nat) (G : Nat -> Prop) (hv : Yn w (.slice ra l.length rc) G l) (hl : l.length <= 1000000) :
  Calls Tryz.prog 143 #[.slice ra l.length rc] w fun e w' => ∃ v, e = .returned v ∧ w'.ownsRow w.heap.size 153 2 v l.length (ZU l) ∧ Chg (fun _ => False) w w' := by
 have EQN := fun w => Lib.run_eql_slice_nil (P := Tryz.prog) w 81 _ ra l.length rc 0 0 Tryz.underlying81;cases ra with
 | none =>
  obtain ⟨h0, rfl⟩ := hv.nil _ _ rfl;have : l = [] := List.eq_nil_of_length_eq_zero h0;subst this;clear hv h0 hl;simp only [List.length_nil] at EQN ⊢;go_enter Tryz.func143, Tryz.ntmps143;go_wp2;go_ret;exact ⟨_, rfl, World.ownsRow_nil _ _ _ _, Chg.refl _ _⟩
 | some ad =>
  have SRC := zb (zjv hv.at_);have ONE := zb (zip l);have LEN := zb (zbi l);clear hv;generalize ZU l = cells at *;go_enter Tryz.func143, Tryz.ntmps143;go_wp2_with (at_builtin; refine zN rfl (.tmp 5) (.tmp 6) 81 rfl 153 2 16 Tryz.underlying81 Tryz.elemStep w.heap.size _ 0 [] rfl (ZK _ _ _ _ (Nat.le_refl _)) (some ad) l.length rc cells rfl ?a1 ?a2 ?a3 ?a4 ?a5 ?a6 ?a7 ?nx1)
  case a1 => exact LEN.out
  case a2 =>
   intro j u hj;obtain ⟨g', o', e, c1⟩ := SRC.out j u hj;exact ⟨g', o', e, zi (zh (fun _ => False) w _) (fun e => e) c1⟩
  case a3 => intro e; cases e
  case a4 => exact ONE.out
  case a5 => omega
  case a6 => unfold maxLen; omega
  case a7 => simp
  intro v8 w8 o8 g8;obtain ⟨a8, c8, rfl⟩ := zl o8
  have k8 : Chg (fun _ => False) w w8 := (zh (fun _ => False) w (.cells #[] 153)).next (Chg.of_grown g8) (fun x hx e => by
   have e2 : w.heap.size = x := by simpa [Value.ownBlock] using e
   omega)
  have K8 := zb k8;have O8 := zb (show w8.ownsRow w.heap.size 153 2 (.slice a8 (0 + l.length) c8) l.length cells from by simpa using o8);clear o8 g8 k8;go_wp2;go_ret;exact ⟨_, rfl, (by have := O8.out; rw [Nat.zero_add] at this; exact this), K8.out⟩
structure zef (w : World) (bn bg gg : Nat) (roots : Int) (ba : Option Addr) (bc base : Nat) (B : List Nat) (m : Nat) (gone : Nat -> Nat) : Prop where
 on : w.heap[bn]? = some (.cells #[.int .i64 roots, .slice ba B.length bc] 217 (0, 0))
 og : w.heap[bg]? = some (.cells #[.slice (some ⟨gg, 0, none⟩) m m] 36 (0, 0))
 ce : ∀ i, i < m -> w.cell? ⟨gg, i, none⟩ = some (.int .i64 (gone i : Int))
 row : w.ownsRow base 3 1 (.slice ba B.length bc) B.length (yP B)
theorem zef.chg {w w' : World} {bn bg gg : Nat} {roots : Int} {ba : Option Addr} {bc base : Nat} {B : List Nat} {m : Nat} {gone : Nat -> Nat} (h : zef w bn bg gg roots ba bc base B m gone) (k : Chg (fun _ => False) w w') : zef w' bn bg gg roots ba bc base B m gone :=
 ⟨k.obj (fun e => e) h.on, k.obj (fun e => e) h.og, fun i hi => zi k (fun e => e) (h.ce i hi), zm h.row k (fun _ _ e => e)⟩
theorem zm8 {f : Int × Int -> Int × Int} {l : zG} {k : Nat} {s : Int × Int} (h : l[k]? = some s) : ((l.take k).map f ++ l.drop k)[k]? = some s := by
 have hk := (List.getElem?_eq_some_iff.1 h).1;rw [List.getElem?_append_right (by simp; omega), List.getElem?_drop];simp only [List.length_map, List.length_take];rw [show k + (k - min k l.length) = k from by omega];exact h
theorem zlG {f : Int × Int -> Int × Int} {l : zG} {k : Nat} {s : Int × Int} (h : l[k]? = some s) : (l.take (k + 1)).map f ++ l.drop (k + 1) = ((l.take k).map f ++ l.drop k).set k (f s) := by
 have hk := (List.getElem?_eq_some_iff.1 h).1;have e : l.drop k = s :: l.drop (k + 1) := by rw [List.drop_eq_getElem_cons hk, (List.getElem?_eq_some_iff.1 h).2]
 rw [List.take_add_one, h, List.map_append, e];rw [List.set_append_right _ _ (by simp; omega)];simp only [List.length_map, List.length_take];rw [show k - min k l.length = 0 from by omega];simp
set_option maxHeartbeats 4000000 in
set_option maxRecDepth 100000 in
theorem zh3 (w : World) (bn bg gg : Nat) (roots : Int) (ba : Option Addr) (bc base : Nat) (B : List Nat) (m : Nat) (gone : Nat -> Nat) (sv : Value) (G : Nat -> Prop) (l : zG) (h : zef w bn bg gg roots ba bc base B m gone) (hl : Yn w sv G l) (ho : zk5 roots B m l) (hs : B.Pairwise (· <= ·)) (h0 : 0 <= roots) (hB : 0 < B.length) (hB2 : B.length <= 1000000) (hgn : ∀ i, i < m -> gone i <= 1000000) (hll : l.length <= 1000000) :
  Calls Tryz.prog 142 #[sv, .pointer (some ⟨bn, 0, none⟩), .pointer (some ⟨bg, 0, none⟩)] w fun e w' => ∃ v, e = .returned v ∧ w'.ownsRow w.heap.size 153 2 v l.length (ZU (za7 roots B gone l)) ∧ Chg (fun _ => False) w w' := by
 obtain ⟨la, cap, rfl⟩ := hl.shape;have HA := zb h;have HO := zb ho;have HS := zb hs;have HGN := zb hgn;have CLN := zb (zio w la l cap G hl hll);obtain ⟨T, hT⟩ : ∃ T : Nat -> zG, T = fun k => (l.take k).map (zkT roots B gone) ++ l.drop k := ⟨_, rfl⟩;have T0 := zb (show T 0 = l from by rw [hT]; simp);have TG := zb (fun k (s : Int × Int) (hk : l[k]? = some s) => show (T k)[k]? = some s from by rw [hT]; exact zm8 hk);have TS := zb (fun k (s : Int × Int) (hk : l[k]? = some s) => show T (k + 1) = (T k).set k (zkT roots B gone s) from by rw [hT]; exact zlG hk);have TL := zb (fun k (hk : k <= l.length) => show (T k).length = l.length from by rw [hT]; simp; omega);have TF := zb (show za7 roots B gone l = T l.length from by rw [hT]; simp only [List.take_length, List.drop_length, List.append_nil]; rfl);rw [TF.out];clear hT h ho hs hl hgn;go_enter Tryz.func142, Tryz.ntmps142;go_wp2_with fail;(with_reducible refine CLN.out.mono ?_);rintro e w2 ⟨v2, rfl, o2, k2⟩;obtain ⟨a2, c2, rfl⟩ := zl o2;have O2 := zb o2;have K2 := zb k2;clear o2 k2 CLN;go_wp2;go_loopw [14] (fun iv wr => ∃ k : Nat, k <= l.length ∧ iv = .int .i64 k ∧ Hid (wr.ownsRow w.heap.size 153 2 (.slice a2 l.length c2) l.length (ZU (T k)) ∧ Chg (fun _ => False) w wr)) (fun iv _ => l.length - (intOf iv).toNat)
 case atStart => exact ⟨0, by omega, rfl, zb ⟨by rw [T0.out]; exact O2.out, K2.out⟩⟩
 case round =>
  obtain ⟨k, hk, rfl, HI⟩ := hrel;have OR := zb HI.out.1;have KC := zb HI.out.2;clear HI;by_cases hlt : k < l.length
  ·obtain ⟨⟨at_, r⟩, hx⟩ : ∃ s, l[k]? = some s := ⟨_, List.getElem?_eq_getElem hlt⟩
   obtain ⟨g, rfl⟩ := ZV OR.out (by omega);have hTl := TL.out k hk;have tg := TG.out k _ hx;obtain ⟨s0, s1⟩ := zas tg
   have x0 : wr.cell? ⟨g, k * 2, none⟩ = some (.int .i64 at_) := by
    rw [OR.out.cellAt (j := k * 2) (by omega)]; exact s0
   have x1 : wr.cell? ⟨g, k * 2 + 1, none⟩ = some (.int .i64 r) := by
    rw [OR.out.cellAt (j := k * 2 + 1) (by omega)]; exact s1
   obtain ⟨hfit, hpos, hlt2⟩ := HO.out _ (List.mem_of_getElem? hx);simp only at hfit hpos hlt2;have E := zb (TS.out k _ hx);have LT2 := zb hlt2;have TGH := zb tg;have kb := zh (fun _ => False) wr (.cells #[.int .i64 at_, .int .i64 r] 153);have KB := zb (KC.out.trans kb);have OB := zb (zm OR.out kb (fun _ _ e => e));have AB := zb (HA.out.chg KB.out);have t1 := ze (o := 1) (zf wr (.cells #[.int .i64 at_, .int .i64 r] 153)) rfl;have n0 := ze (o := 0) AB.out.on rfl;have n1 := ze (o := 1) AB.out.on rfl;have y1 := zi kb (fun e => e) x1;have Y1 := zb y1;have FIT := zb hfit;have OW := zfq (wr.alloc (.cells #[.int .i64 at_, .int .i64 r] 153)) roots r B ba bc base AB.out.row HS.out h0 hfit hB hB2 hpos;unfold zk6 at OW;have OW := zb OW;clear hx kb OR KC hpos hlt2 hfit s0 s1 tg hTl y1;go_wp2_with fail;clear x0 x1 t1 n0 n1;generalize wr.alloc (.cells #[.int .i64 at_, .int .i64 r] 153) = wa at *;(with_reducible refine OW.out.mono ?_);rintro e w5 (⟨i, hi, rfl, k5⟩ | ⟨hi, rfl, k5⟩)
   ·have O5 := zb (zm OB.out k5 (fun _ _ e => e))
    have K5 := zb (KB.out.trans k5);have A5 := zb (AB.out.chg k5);have hin := LT2.out i hi
    have hrr : roots <= r := by
     unfold XE at hi;split at hi
     ·cases hi
     ·omega
    have hgi := HGN.out i hin;obtain ⟨f1, f2⟩ := FIT.out;have z1 : IntKind.i64.wrap (r - (gone i : Int)) = r - (gone i : Int) := by rw [IntKind.wrap_i64] <;> omega
    have EE := zb (show T (k + 1) = (T k).set k (at_, r - gone i) from by rw [E.out]; unfold zkT; simp only; rw [hi]);have kd := zK (fun _ => False) w5;have OD := zb (zm O5.out kd (fun _ _ e => e));have KD := zb (K5.out.trans kd);have u1 := zi k5 (fun e => e) Y1.out;have u2 := ze (o := 0) A5.out.og rfl;have u3 := A5.out.ce i hin
    have NX := zb (show ((w5.drew).setCell ⟨g, k * 2 + 1, none⟩ (.int .i64 (r - gone i))).ownsRow w.heap.size 153 2 (.slice (some ⟨g, 0, none⟩) l.length c2) l.length (ZU (T (k + 1))) from by
     have := zfr OD.out (i := k * 2 + 1) (.int .i64 (r - gone i));rw [zdO _ TGH.out] at this;rw [EE.out];exact this)
    have KN := zb (KD.out.next (zE w5.drew g (k * 2 + 1) (.int .i64 (r - gone i))) (fun j hj e => by have := (OD.out.lt g rfl).1; omega));obtain ⟨cs, hcs⟩ := zz OD.out rfl;have fz := zk (o := k * 2 + 1) hcs;have v1 : w5.drew.cell? ⟨g, k * 2 + 1, none⟩ = some (.int .i64 r) := u1;clear hi OW OB KB AB O5 K5 kd hcs;go_wp2_with fail;have v2 : w5.drew.cell? ⟨bg, 0, none⟩ = some (.slice (some ⟨gg, 0, none⟩) m m) := u2;have v3 : w5.drew.cell? ⟨gg, i, none⟩ = some (.int .i64 (gone i : Int)) := u3;clear u1 u2 u3;refine Zx 12 (by kernel_rfl) (by kernel_rfl) ?_;simp only [List.take_succ_cons, List.take_zero, List.drop_succ_cons, List.drop_zero]
    repeat still_step
    refine wpStill_nil ?_;go_wp2;go_roundw
    case rel => exact ⟨k + 1, by omega, by go_num, zb ⟨NX.out, KN.out⟩⟩
    case measure => simp [intOf]; omega
   ·have O5 := zb (zm OB.out k5 (fun _ _ e => e))
    have K5 := zb (KB.out.trans k5)
    have EE := zb (show T (k + 1) = T k from by
     rw [E.out];unfold zkT;simp only;rw [hi]
     exact List.ext_getElem? (fun j => by
      rw [List.getElem?_set];split
      ·rename_i e
       subst e;split
       ·exact TGH.out.symm
       ·rename_i q
        rw [List.getElem?_eq_none (by omega)]
      ·rfl))
    clear hi OW OB KB AB;go_wp2;go_roundw
    case rel => exact ⟨k + 1, by omega, by go_num, zb ⟨by rw [EE.out]; exact O5.out, K5.out⟩⟩
    case measure => simp [intOf]; omega
  ·obtain rfl : k = l.length := by omega
   go_wp2;go_ret;exact ⟨_, rfl, OR.out, KC.out⟩
theorem Tryz.elemSteps : Zl Tryz.prog 81 1 24 := Zb (z := .slice none 0 0) (by kernel_rfl) rfl (by decide)
theorem Tryz.elemItem : Zl Tryz.prog 98 2 32 := Zb (z := .agg #[.int .i64 0, .slice none 0 0]) (by kernel_rfl) rfl (by decide)
theorem zjX {w : World} {base : Nat} {v : Value} {G : Nat -> Prop} {zs : List (zG × Value)} (h : w.ownsRow base 81 1 v zs.length (zs.map Prod.snd)) (hs : ∀ z ∈ zs, Yn w z.2 G z.1) : yo w v (fun k => G k ∨ v.ownBlock = some k) (zs.map Prod.fst) := by
 obtain ⟨a, cap, rfl, hl, hc⟩ := xW h;refine ⟨a, cap, by rw [List.length_map], by rw [List.length_map]; exact hl, fun j l hj => ?_⟩;rw [List.getElem?_map] at hj;cases hz : zs[j]? with
 | none => rw [hz] at hj; cases hj
 | some z =>
  rw [hz] at hj;cases hj;obtain ⟨g, rfl, hg, c⟩ := hc j z.2 (by rw [List.getElem?_map, hz]; rfl);exact ⟨g, 0, z.2, rfl, .inr rfl, by rw [Nat.zero_add]; exact c, (hs z (List.mem_of_getElem? hz)).up (fun _ q => .inl q)⟩
def Xc (xs : List (zF × Value)) : List Value := xs.flatMap fun x => [.int .i64 x.1.cert, x.2]
theorem zeE (a b : List (zF × Value)) : Xc (a ++ b) = Xc a ++ Xc b := by unfold Xc; rw [List.flatMap_append]
theorem zd5 : ∀ {l : List (zF × Value)} {j : Nat} {s : zF × Value}, l[j]? = some s -> (Xc l)[j * 2]? = some (.int .i64 s.1.cert) ∧ (Xc l)[j * 2 + 1]? = some s.2
 | s :: l, 0, t, h => by
  simp at h;subst h;exact ⟨rfl, rfl⟩
 | s :: l, j + 1, t, h => by
  have e : Xc (s :: l) = [.int .i64 s.1.cert, s.2] ++ Xc l := rfl;obtain ⟨h1, h2⟩ := zd5 (l := l) (j := j) (by simpa using h);rw [e];refine ⟨?_, ?_⟩
  ·rw [List.getElem?_append_right (by simp; omega), <- h1]
   congr 1
   simp; omega
  ·rw [List.getElem?_append_right (by simp; omega), <- h2]
   congr 1
   simp; omega
theorem zfC {w : World} {base : Nat} {v : Value} {G : Nat -> Prop} {xs : List (zF × Value)} (h : w.ownsRow base 98 2 v xs.length (Xc xs)) (hs : ∀ x ∈ xs, yo w x.2 G x.1.paths) : Ys w v (fun k => G k ∨ v.ownBlock = some k) (xs.map Prod.fst) := by
 have h0 := h;obtain ⟨h1, ⟨rfl, h2⟩ | ⟨g, cap, cur, rfl, hg, hh, q1, q2, q3, q4⟩⟩ := h
 ·refine ⟨none, 0, by rw [List.length_map, h2], by rw [List.length_map, h2]; unfold maxLen; omega, fun j x hj => ?_⟩
  have := (List.getElem?_eq_some_iff.1 hj).1;rw [List.length_map] at this;omega
 ·refine ⟨_, cap, by rw [List.length_map], by rw [List.length_map]; omega, fun j x hj => ?_⟩
  rw [List.getElem?_map] at hj;cases hz : xs[j]? with
  | none => rw [hz] at hj; cases hj
  | some z =>
   rw [hz] at hj;cases hj;have hjl := (List.getElem?_eq_some_iff.1 hz).1;obtain ⟨c1, c2⟩ := zd5 hz;refine ⟨g, 0, z.2, rfl, .inr rfl, ?_, ?_, (hs z (List.mem_of_getElem? hz)).up (fun _ q => .inl q)⟩
   ·rw [Nat.zero_add, h0.cellAt (j := j * 2) (by omega)]; exact c1
   ·rw [Nat.zero_add, h0.cellAt (j := j * 2 + 1) (by omega)]; exact c2
structure zaO (w wr : World) (br : Nat) (iv sv : Value) (xs : List (zF × Value)) (G : Nat -> Prop) : Prop where
 box : wr.heap[br]? = some (.cells #[iv, sv] 83 (0, 0))
 row : wr.ownsRow w.heap.size 98 2 iv xs.length (Xc xs)
 ent : ∀ x ∈ xs, yo wr x.2 G x.1.paths
 typ : ∀ k, G k -> w.heap.size <= k ∧ ∃ cs t, wr.heap[k]? = some (.cells cs t (0, 0)) ∧ (t = 81 ∨ t = 153)
theorem zaO.chg {w wr w' : World} {br : Nat} {iv sv : Value} {xs : List (zF × Value)} {G : Nat -> Prop} (h : zaO w wr br iv sv xs G) (k : Chg (fun _ => False) wr w') : zaO w w' br iv sv xs G :=
 ⟨k.obj (fun e => e) h.box, zm h.row k (fun _ _ e => e), fun x hx => (h.ent x hx).chg k (fun _ _ e => e), fun j hj => by
  obtain ⟨h1, cs, t, q, ht⟩ := h.typ j hj;exact ⟨h1, cs, t, k.obj (fun e => e) q, ht⟩⟩
theorem zaO.push {w wr w' : World} {br : Nat} {iv iv' pv sv : Value} {xs : List (zF × Value)} {G G' : Nat -> Prop} {y : zF} (h : zaO w wr br iv sv xs G) (hp : yo wr pv G' y.paths) (ht : ∀ k, G' k -> w.heap.size <= k ∧ ∃ cs t, wr.heap[k]? = some (.cells cs t (0, 0)) ∧ (t = 81 ∨ t = 153))
  (hg : wr.grownBy w' iv.ownBlock) (ho : w'.ownsRow w.heap.size 98 2 iv' (xs.length + 1) (Xc xs ++ [.int .i64 y.cert, pv])) :
  zaO w (w'.setCell ⟨br, 0, none⟩ iv') br iv' sv (xs ++ [(y, pv)]) (fun k => G k ∨ G' k) ∧ w'.heap[br]? = some (.cells #[iv, sv] 83 (0, 0)) ∧ Chg (fun k => k = br ∨ iv.ownBlock = some k) wr (w'.setCell ⟨br, 0, none⟩ iv') := by
 have kg := Chg.of_grown hg;have kc := zE w' br 0 iv';have rowT : ∀ k, iv.ownBlock = some k -> ∃ cs, wr.heap[k]? = some (.cells cs 98 (0, 0)) := fun k hk => zz h.row hk
 have boxn : ¬ iv.ownBlock = some br := fun e => by
  obtain ⟨cs, q⟩ := rowT _ e;exact Zd q h.box (by decide) rfl
 have box2 := kg.obj boxn h.box
 have tne : ∀ k cs t, wr.heap[k]? = some (.cells cs t (0, 0)) -> (t = 81 ∨ t = 153) -> ¬ iv.ownBlock = some k ∧ ¬ k = br := fun k cs t q ht => by
  refine ⟨fun e => ?_, fun e => ?_⟩
  ·obtain ⟨ds, q2⟩ := rowT _ e
   exact Zd q q2 (by rcases ht with rfl | rfl <;> decide) rfl
  ·exact Zd q h.box (by rcases ht with rfl | rfl <;> decide) e
 refine ⟨⟨zr (o := 0) box2 iv', ?_, fun x hx => ?_, fun k hk => ?_⟩, box2, (kg.mono (fun k _ e => .inr e)).trans (kc.mono (fun k _ e => .inl e))⟩
 ·rw [zeE, List.length_append]
  exact zm ho kc (fun k hk e => by
   obtain ⟨cs, q⟩ := zz ho hk;exact Zd q box2 (by decide) e)
 ·rcases List.mem_append.1 hx with hx | hx
  ·refine (((h.ent x hx).chg kg (fun k hk e => ?_)).chg kc (fun k hk e => ?_)).up (fun _ q => .inl q)
   ·obtain ⟨_, cs, t, q, ht⟩ := h.typ k hk
    exact (tne k cs t q ht).1 e
   ·obtain ⟨_, cs, t, q, ht⟩ := h.typ k hk
    exact (tne k cs t q ht).2 e
  ·rw [List.mem_singleton] at hx
   subst hx;refine ((hp.chg kg (fun k hk e => ?_)).chg kc (fun k hk e => ?_)).up (fun _ q => .inr q)
   ·obtain ⟨_, cs, t, q, ht⟩ := ht k hk
    exact (tne k cs t q ht).1 e
   ·obtain ⟨_, cs, t, q, ht⟩ := ht k hk
    exact (tne k cs t q ht).2 e
 ·rcases hk with hk | hk
  ·obtain ⟨h1, cs, t, q, ht⟩ := h.typ k hk
   exact ⟨h1, cs, t, kc.obj (tne k cs t q ht).2 (kg.obj (tne k cs t q ht).1 q), ht⟩
  ·obtain ⟨h1, cs, t, q, ht⟩ := ht k hk
   exact ⟨h1, cs, t, kc.obj (tne k cs t q ht).2 (kg.obj (tne k cs t q ht).1 q), ht⟩
structure XB (w0 wr : World) (by_ : Nat) (cert : Int) (pv : Value) (zs : List (zG × Value)) (G : Nat -> Prop) : Prop where
 box : wr.heap[by_]? = some (.cells #[.int .i64 cert, pv] 98 (0, 0))
 row : wr.ownsRow w0.heap.size 81 1 pv zs.length (zs.map Prod.snd)
 ent : ∀ z ∈ zs, Yn wr z.2 G z.1
 typ : ∀ k, G k -> w0.heap.size <= k ∧ ∃ cs, wr.heap[k]? = some (.cells cs 153 (0, 0))
 ch : Chg (fun _ => False) w0 wr
 low : w0.heap.size <= by_
theorem XB.chg {w0 wr w' : World} {by_ : Nat} {cert : Int} {pv : Value} {zs : List (zG × Value)} {G : Nat -> Prop} (h : XB w0 wr by_ cert pv zs G) (k : Chg (fun _ => False) wr w') : XB w0 w' by_ cert pv zs G :=
 ⟨k.obj (fun e => e) h.box, zm h.row k (fun _ _ e => e), fun x hx => (h.ent x hx).chg k (fun _ _ e => e), fun j hj => by
  obtain ⟨h1, cs, q⟩ := h.typ j hj;exact ⟨h1, cs, k.obj (fun e => e) q⟩, h.ch.trans k, h.low⟩
theorem XB.push {w0 wr w' : World} {by_ : Nat} {cert : Int} {pv pv' v : Value} {zs : List (zG × Value)} {G : Nat -> Prop} {l : zG} (h : XB w0 wr by_ cert pv zs G) (hv : wr.ownsRow w0.heap.size 153 2 v l.length (ZU l))
  (hg : wr.grownBy w' pv.ownBlock) (ho : w'.ownsRow w0.heap.size 81 1 pv' (zs.length + 1) (zs.map Prod.snd ++ [v])) :
  XB w0 (w'.setCell ⟨by_, 1, none⟩ pv') by_ cert pv' (zs ++ [(l, v)]) (fun k => G k ∨ v.ownBlock = some k) ∧ w'.heap[by_]? = some (.cells #[.int .i64 cert, pv] 98 (0, 0)) := by
 have kg := Chg.of_grown hg;have kc := zE w' by_ 1 pv'
 have boxn : ¬ pv.ownBlock = some by_ := fun e => by
  obtain ⟨cs, q⟩ := zz h.row e;exact Zd q h.box (by decide) rfl
 have box2 := kg.obj boxn h.box
 have tne : ∀ k cs, wr.heap[k]? = some (.cells cs 153 (0, 0)) -> ¬ pv.ownBlock = some k ∧ ¬ k = by_ := fun k cs q => by
  refine ⟨fun e => ?_, fun e => ?_⟩
  ·obtain ⟨ds, q2⟩ := zz h.row e
   exact Zd q q2 (by decide) rfl
  ·exact Zd q h.box (by decide) e
 refine ⟨⟨zr (o := 1) box2 pv', ?_, fun z hz => ?_, fun k hk => ?_, (h.ch.next kg (fun k hk e => by have := (h.row.lt k e).1; omega)).next kc (fun k hk e => by have := h.low; omega), h.low⟩, box2⟩
 ·rw [List.map_append, List.length_append]
  exact zm ho kc (fun k hk e => by
   obtain ⟨cs, q⟩ := zz ho hk;exact Zd q box2 (by decide) e)
 ·rcases List.mem_append.1 hz with hz | hz
  ·refine (((h.ent z hz).chg kg (fun k hk e => ?_)).chg kc (fun k hk e => ?_)).up (fun _ q => .inl q)
   ·obtain ⟨_, cs, q⟩ := h.typ k hk
    exact (tne k cs q).1 e
   ·obtain ⟨_, cs, q⟩ := h.typ k hk
    exact (tne k cs q).2 e
  ·rw [List.mem_singleton] at hz
   subst hz;refine (((zbM hv).chg kg (fun k hk e => ?_)).chg kc (fun k hk e => ?_)).up (fun _ q => .inr q)
   ·obtain ⟨cs, q⟩ := zz hv hk
    exact (tne k cs q).1 e
   ·obtain ⟨cs, q⟩ := zz hv hk
    exact (tne k cs q).2 e
 ·rcases hk with hk | hk
  ·obtain ⟨h1, cs, q⟩ := h.typ k hk
   exact ⟨h1, cs, kc.obj (tne k cs q).2 (kg.obj (tne k cs q).1 q)⟩
  ·obtain ⟨cs, q⟩ := zz hv hk
   exact ⟨(hv.lt k hk).1, cs, kc.obj (tne k cs q).2 (kg.obj (tne k cs q).1 q)⟩
theorem XB.done {w0 wr : World} {by_ : Nat} {cert : Int} {pv : Value} {zs : List (zG × Value)} {G : Nat -> Prop} (h : XB w0 wr by_ cert pv zs G) : yo wr pv (fun k => G k ∨ pv.ownBlock = some k) (zs.map Prod.fst) ∧ ∀ k, (G k ∨ pv.ownBlock = some k) -> w0.heap.size <= k ∧ ∃ cs t, wr.heap[k]? = some (.cells cs t (0, 0)) ∧ (t = 81 ∨ t = 153) := by
 refine ⟨zjX h.row h.ent, fun k hk => ?_⟩;rcases hk with hk | hk
 ·obtain ⟨h1, cs, q⟩ := h.typ k hk
  exact ⟨h1, cs, _, q, .inr rfl⟩
 ·obtain ⟨cs, q⟩ := zz h.row hk
  exact ⟨(h.row.lt k hk).1, cs, _, q, .inl rfl⟩
def zdC (C : List zn) (I : List zF) (need : List Bool) (m k : Nat) : List Nat := (List.range m).map fun j => if j < k then zaN C I need j else 0
theorem zfG (C : List zn) (I : List zF) (need : List Bool) (m k : Nat) : (zdC C I need m k).length = m := by unfold zdC; simp
theorem zi0 (C : List zn) (I : List zF) (need : List Bool) (m : Nat) : zdC C I need m 0 = List.replicate m 0 := by
 unfold zdC;apply List.ext_getElem?;intro i;rw [List.getElem?_map, List.getElem?_replicate];by_cases h : i < m
 ·rw [List.getElem?_range h, if_pos h]; simp
 ·rw [List.getElem?_eq_none (by rw [List.length_range]; omega), if_neg h]; rfl
theorem zi1 {C : List zn} {I : List zF} {need : List Bool} {m k : Nat} (hk : k < m) : zdC C I need m (k + 1) = (zdC C I need m k).set k (zaN C I need k) := by
 unfold zdC;apply List.ext_getElem?;intro i;rw [List.getElem?_set, List.getElem?_map, List.getElem?_map];by_cases h : i < m
 ·rw [List.getElem?_range h]
  simp only [Option.map_some, List.length_map, List.length_range];by_cases e : k = i
  ·subst e
   rw [if_pos rfl, if_pos h, if_pos (by omega)]
  ·rw [if_neg e]
   congr 1
   by_cases h2 : i < k
   ·rw [if_pos h2, if_pos (by omega)]
   ·rw [if_neg h2, if_neg (by omega)]
 ·rw [List.getElem?_eq_none (by rw [List.length_range]; omega)]
  rw [if_neg (by omega)];rfl
theorem zkm {C : List zn} {I : List zF} {need : List Bool} {m k i : Nat} (hi : i < m) (hk : i < k) : (zdC C I need m k)[i]? = some (zaN C I need i) := by
 unfold zdC;rw [List.getElem?_map, List.getElem?_range hi];simp only [Option.map_some];rw [if_pos hk]
theorem zlQ (l : List Nat) (k x : Nat) : (yP l).set k (.int .i64 (x : Int)) = yP (l.set k x) := by unfold yP; rw [List.map_set]
theorem zkl (C : List zn) (I : List zF) (need : List Bool) (k : Nat) : zaN C I need k <= tot C I k := by
 induction k with
 | zero => exact Nat.zero_le _
 | succ k ih =>
  unfold zaN;have := zjr C I k;split <;> omega
theorem zoj (n : Nat) : (madeCells #[Value.int .i64 0] n).toList = yP (List.replicate n 0) := by
 unfold madeCells yP;apply List.ext_getElem?;intro i;simp only [Array.toList_map, Array.toList_range, List.getElem?_map, List.getElem?_replicate];by_cases h : i < n
 ·rw [List.getElem?_range h, if_pos h]
  simp [Nat.mod_one]
 ·rw [List.getElem?_eq_none (by simp; omega), if_neg h]; rfl
theorem Tryz.intInfo : ∃ i, Tryz.prog.info? 3 = some i ∧ i.zero = some (.int .i64 0) ∧ i.size = 1 ∧ i.bytes = 8 := by
 have h : (Tryz.prog.info? 3).map (fun i => (i.zero, i.size, i.bytes)) = some (some (.int .i64 0), 1, 8) := by kernel_rfl
 cases hq : Tryz.prog.info? 3 with
 | none => rw [hq] at h; cases h
 | some i =>
  rw [hq] at h;simp at h;exact ⟨i, rfl, h.1, h.2.1, h.2.2⟩
end Go.Proofs.YthdfplafihmejaaGreat
