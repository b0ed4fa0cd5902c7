/-
  Package acl: fits, Fits, Ask. Package acl: Ask. Proofs in plain Lean: the numbers of rules, what is needed, what is cut. Proofs in memory, and what the argument's reading says of one. What the arguments' readings say: proofs.
-/
import Derived.Test.YthdfplafihmejaaGreatZcANew
import Derived.Test.YthdfplafihmejaaGreatZcCLike
import Derived.Test.YthdfplafihmejaaGreatZcCCert1
import Derived.Test.YthdfplafihmejaaGreatZcRTell1
namespace Go.Proofs.YthdfplafihmejaaGreat
open Go.RowKit Go.Maps
def zh2 (c l : List ByteArray) : Bool := l.any (zaM c)
def zmq (R : List zA) (b : Int) (c : List ByteArray) (x : ByteArray) : Bool := zh2 c (zbL R x b)
def zbX (R : List zA) (b : Int) (c : List ByteArray) : Int -> List ByteArray -> Int
 | a, [] => a
 | a, x :: r => if zQ R x b ≠ 0 then 2 else zbX R b c (if zmq R b c x = true then a else 0) r
def zg4 (R : List zA) (b : Int) (c s : List ByteArray) : Int := zbX R b c 1 s
theorem zi3 {R : List zA} {b : Int} {c l : List ByteArray} {a : Int} {k : Nat} {x : ByteArray} (hx : l[k]? = some x) : zbX R b c a (l.drop k) = if zQ R x b ≠ 0 then 2 else zbX R b c (if zmq R b c x = true then a else 0) (l.drop (k + 1)) := by
 have hl := (List.getElem?_eq_some_iff.1 hx).1;rw [List.drop_eq_getElem_cons hl, (List.getElem?_eq_some_iff.1 hx).2, zbX]
def znQ (ok : Bool) (b : Int) (n : Nat) : Int := if ok = true then (if b < 1 ∨ 5000 < b then 1 else if 400 < n then 3 else 0) else 2
def YS (R : List zA) (b : Int) (c : List ByteArray) (op : Int) : Nat -> Int -> List zW -> Int × Int
 | _, a, [] => (a, -1)
 | i, a, x :: r => if x.1 = op then (if zg4 R b c x.2 = 1 then (1, (i : Int)) else YS R b c op (i + 1) (if zg4 R b c x.2 = 2 then 2 else a) r) else YS R b c op (i + 1) a r
theorem zjg {R : List zA} {b : Int} {c : List ByteArray} {op : Int} {L : List zW} {a : Int} {k : Nat} {x : zW} (hx : L[k]? = some x) : YS R b c op k a (L.drop k) = if x.1 = op then (if zg4 R b c x.2 = 1 then (1, (k : Int)) else YS R b c op (k + 1) (if zg4 R b c x.2 = 2 then 2 else a) (L.drop (k + 1))) else YS R b c op (k + 1) a (L.drop (k + 1)) := by
 have hl := (List.getElem?_eq_some_iff.1 hx).1;rw [List.drop_eq_getElem_cons hl, (List.getElem?_eq_some_iff.1 hx).2, YS]
def zf0 (R : List zA) (b : Int) (c : List ByteArray) (op : Int) : Int := if XR c = true then (if op < 0 ∨ 8 <= op then 1 else znQ true b R.length) else 2
def Few (R : List zA) : Prop := (R.length <= 400 ∧ ∀ r ∈ R, r.1.size <= 400) ∨ 400 < R.length
theorem zib {w w1 : World} {rv sv : Value} {R : List zA} {G : Nat -> Prop} {s : List ByteArray} (hR : zM w rv (· < w.heap.size) R) (hf : Few R) (hs : zu w sv G s) (k : Chg (fun _ => False) w w1) {j : Nat} {x : ByteArray} (hx : s[j]? = some x) : zeX w1 rv R x := by
 obtain ⟨_, _, _, _, hc⟩ := hs;obtain ⟨_, _, _, _, _, q⟩ := hc j x hx;exact ⟨zbk hR k, hf, q⟩
theorem zkq (w : World) (cv : Value) (c : List ByteArray) (G : Nat -> Prop) (x : ByteArray) (p : Nat) (hp : w.cell? ⟨p, 0, none⟩ = some cv) (hc : zu w cv G c) :
  Calls Tryz.prog 136 #[.string x, .pointer (some ⟨p, 0, none⟩)] w fun e w' => e = .returned (.bool (zaM c x)) ∧ w = w' := by
 have HA := zb (znh w cv G c x hc);obtain ⟨la, cap, rfl, _, _⟩ := hc;go_enter Tryz.func136, Tryz.ntmps136;go_wp2_with fail;(with_reducible refine HA.out.mono ?_);rintro e w2 ⟨rfl, rfl⟩;go_wp2;go_ret;exact ⟨rfl, rfl⟩
theorem zkS {c l : List ByteArray} {k : Nat} {x : ByteArray} (hx : l[k]? = some x) : zh2 c (l.take (k + 1)) = (zh2 c (l.take k) || zaM c x) := by
 unfold zh2;rw [List.take_add_one, hx, List.any_append]; simp
set_option maxRecDepth 100000 in
theorem ziT (w : World) (v cv : Value) (l c : List ByteArray) (G G' : Nat -> Prop) (p : Nat) (hp : w.cell? ⟨p, 0, none⟩ = some cv) (hc : zu w cv G c) (hv : zu w v G' l) :
  Calls Tryz.prog 155 #[v, .func (.func 136) #[] #[.pointer (some ⟨p, 0, none⟩)]] w fun e w' => (∃ i : Int, e = .returned (.int .i64 i) ∧ decide (0 <= i) = zh2 c l) ∧ w = w' := by
 have FI := zb (fun x => zkq w cv c G x p hp hc);obtain ⟨la, cap, rfl, hl0, hcl⟩ := hv;have HCL := zb hcl;unfold maxLen at hl0;clear hcl hp hc;go_enter Tryz.func155, Tryz.ntmps155;go_wp2;go_loop [8] (fun iv => ∃ k : Nat, k <= l.length ∧ iv = .int .i64 k ∧ Hid (zh2 c (l.take k) = false)) (fun iv => l.length - (intOf iv).toNat)
 case atStart => exact ⟨0, by omega, rfl, zb rfl⟩
 case round =>
  obtain ⟨k, hk, rfl, HI⟩ := hrel;by_cases hlt : k < l.length
  ·obtain ⟨x, hx⟩ : ∃ x, l[k]? = some x := ⟨_, List.getElem?_eq_getElem hlt⟩
   obtain ⟨lb, lo, rfl, _, c0, _⟩ := HCL.out k x hx;have F := zb (FI.out x);have AT := zb (zkS (c := c) hx);have HX := zb hx;clear hx FI;generalize hb : zaM c x = r at *;have HB := zb hb;clear hb;cases r with
   | true =>
    have R := zb (show zh2 c l = true from by
     unfold zh2;rw [List.any_eq_true];exact ⟨x, List.mem_of_getElem? HX.out, HB.out⟩)
    clear HI AT;go_wp2_with fail;(with_reducible refine F.out.mono ?_);rintro e w2 ⟨rfl, rfl⟩;go_wp2;go_ret;exact ⟨⟨_, rfl, by rw [R.out]; exact decide_eq_true (by omega)⟩, rfl⟩
   | false =>
    have HI2 := zb (show zh2 c (l.take (k + 1)) = false from by rw [AT.out, HI.out]; rfl);clear HI AT;go_wp2_with fail;(with_reducible refine F.out.mono ?_);rintro e w2 ⟨rfl, rfl⟩;go_wp2;go_round
    case rel => exact ⟨k + 1, by omega, by go_num, HI2⟩
    case measure => simp [intOf]; omega
  ·obtain rfl : k = l.length := by omega
   rw [List.take_length] at HI;go_wp2;go_ret;exact ⟨⟨-1, rfl, by rw [HI.out]; rfl⟩, rfl⟩
set_option maxRecDepth 100000 in
theorem zeH (w : World) (v cv : Value) (l c : List ByteArray) (G G' : Nat -> Prop) (p : Nat) (hp : w.cell? ⟨p, 0, none⟩ = some cv) (hc : zu w cv G c) (hv : zu w v G' l) :
  Calls Tryz.prog 135 #[v, .func (.func 136) #[] #[.pointer (some ⟨p, 0, none⟩)]] w fun e w' => e = .returned (.bool (zh2 c l)) ∧ w = w' := by
 have IX := zb (ziT w v cv l c G G' p hp hc hv);obtain ⟨la, cap, rfl, hl0, hcl⟩ := hv;clear hcl hp hc;generalize zh2 c l = r at *;go_enter Tryz.func135, Tryz.ntmps135;go_wp2_with fail;(with_reducible refine IX.out.mono ?_);rintro e w2 ⟨⟨i, rfl, hi⟩, rfl⟩;go_wp2;go_ret;exact ⟨rfl, rfl⟩
set_option maxHeartbeats 1000000 in
set_option maxRecDepth 100000 in
theorem zlY (w : World) (rv sv cv : Value) (R : List zA) (s c : List ByteArray) (b : Int) (G G' : Nat -> Prop) (hR : zM w rv (· < w.heap.size) R) (hf : Few R) (hs : zu w sv G s) (hc : zu w cv G' c) :
  Calls Tryz.prog 120 #[rv, sv, cv, .int .i64 b] w fun e w' => e = .returned (.int .i64 (zg4 R b c s)) ∧ Chg (fun _ => False) w w' := by
 have ALL := zb (fun w1 (k : Chg (fun _ => False) w w1) j x (hx : s[j]? = some x) => zf3 (b := b) (zib hR hf hs k hx));have HC := zb hc;have HS := zb hs;obtain ⟨ra, rcap, rfl, _, _⟩ := hR;obtain ⟨sa, scap, rfl, hl0, _⟩ := hs;obtain ⟨ca, ccap, rfl, hl1, _⟩ := hc;unfold maxLen at hl0 hl1;clear hf;have ST := zb (show zg4 R b c s = zbX R b c 1 (s.drop 0) from rfl);generalize zg4 R b c s = res at *;go_enter Tryz.func120, Tryz.ntmps120;go_wp2;have ka := zh (fun _ => False) w (.cells #[.slice ca c.length ccap] 26);have OB := zb (zf w (.cells #[.slice ca c.length ccap] 26));have KA := zb ka;clear ka;go_loopw [9, 16] (fun av iv wr => ∃ (k : Nat) (a : Int), k <= s.length ∧ iv = .int .i64 k ∧ av = .int .i64 a ∧ Hid (res = zbX R b c a (s.drop k) ∧ Chg (fun _ => False) (w.alloc (.cells #[.slice ca c.length ccap] 26)) wr)) (fun _ iv _ => s.length - (intOf iv).toNat)
 case atStart => exact ⟨0, 1, by omega, rfl, rfl, zb ⟨ST.out, Chg.refl _ _⟩⟩
 case round =>
  obtain ⟨k, a, hk, rfl, rfl, HI⟩ := hrel;have KW := zb (KA.out.trans HI.out.2);by_cases hlt : k < s.length
  ·obtain ⟨x, hx⟩ : ∃ x, s[k]? = some x := ⟨_, List.getElem?_eq_getElem hlt⟩
   obtain ⟨sa', scap', e1, _, hcl⟩ := HS.out.chg KW.out (fun _ _ e => e);cases e1;obtain ⟨lb, lo, rfl, _, c0, _⟩ := hcl k x hx;have AL := zb (ALL.out wr KW.out k x hx);have FS := zb (show res = if zQ R x b ≠ 0 then 2 else zbX R b c (if zmq R b c x = true then a else 0) (s.drop (k + 1)) from by rw [HI.out.1]; exact zi3 hx);have KI := zb HI.out.2;clear hcl hx HI;by_cases he : zQ R x b = 0
   ·rw [he] at AL
    have FS2 := zb (show res = zbX R b c (if zmq R b c x = true then a else 0) (s.drop (k + 1)) from by rw [FS.out, if_neg (by rw [he]; simp)]);have MB := zb (show zmq R b c x = zh2 c (zbL R x b) from rfl);clear FS he;generalize zbL R x b = T at *;go_wp2_with fail;(with_reducible refine AL.out.mono ?_);rintro e w2 ⟨va, rfl, hva, k2⟩;have K2 := zb (KI.out.trans k2);have KW2 := zb (KW.out.trans k2);have ob := K2.out.obj (fun e => e) OB.out;have CT := zb (zeH w2 va (.slice ca c.length ccap) T c G' _ w.heap.size (ze ob rfl) (HC.out.chg KW2.out (fun _ _ e => e)) hva);obtain ⟨va1, va2, eva, _, _⟩ := hva;subst eva;generalize hm : zh2 c T = m at *;clear k2 ob AL KI KW hm;cases m with
    | true =>
     have FS3 := zb (show res = zbX R b c a (s.drop (k + 1)) from by rw [FS2.out, MB.out]; rfl);clear FS2 MB;go_wp2_with fail;(with_reducible refine CT.out.mono ?_);rintro e w3 ⟨rfl, rfl⟩;go_wp2;go_roundw
     case rel => exact ⟨k + 1, a, by omega, by go_num, rfl, zb ⟨FS3.out, K2.out⟩⟩
     case measure => simp [intOf]; omega
    | false =>
     have FS3 := zb (show res = zbX R b c 0 (s.drop (k + 1)) from by rw [FS2.out, MB.out]; rfl);clear FS2 MB;go_wp2_with fail;(with_reducible refine CT.out.mono ?_);rintro e w3 ⟨rfl, rfl⟩;go_wp2;go_roundw
     case rel => exact ⟨k + 1, 0, by omega, by go_num, rfl, zb ⟨FS3.out, K2.out⟩⟩
     case measure => simp [intOf]; omega
   ·have R2 := zb (show res = 2 from by rw [FS.out, if_pos he])
    have g1 : (zQ R x b != 0) = true := by rw [bne_iff_ne]; exact he
    have g2 : (zQ R x b == 0) = false := by rw [beq_eq_false_iff_ne]; exact he
    clear FS he;generalize zQ R x b = ek at *;go_wp2_with fail;(with_reducible refine AL.out.mono ?_);rintro e w2 ⟨va, rfl, ⟨va1, va2, rfl, _, _⟩, k2⟩;have K2 := zb (KW.out.trans k2);clear k2 AL;go_wp2;go_ret;exact ⟨by rw [R2.out]; rfl, K2.out⟩
  ·obtain rfl : k = s.length := by omega
   have R := zb (show res = a from by rw [HI.out.1, List.drop_length]; rfl);go_wp2;go_ret;exact ⟨by rw [R.out]; rfl, KW.out⟩
theorem znR {b : Int} {n : Nat} {ok : Bool} (h : znQ ok b n = 0) : ok = true ∧ 1 <= b ∧ b <= 5000 ∧ n <= 400 := by
 unfold znQ at h;cases ok with
 | false => simp at h
 | true =>
  by_cases h1 : b < 1 ∨ 5000 < b
  ·simp [h1] at h
  ·by_cases h2 : 400 < n
   ·simp [h1, h2] at h
   ·exact ⟨rfl, by omega, by omega, by omega⟩
theorem zhc (w : World) (b : Int) (h1 : 1 <= b) (h2 : b <= 5000) : Calls Tryz.prog 119 #[.int .i64 b] w fun e w' => e = .returned (.bool true) ∧ w = w' := by
 have g3 : decide (1 <= b) = true := decide_eq_true h1;have g4 : decide (b <= 5000) = true := decide_eq_true h2;go_enter Tryz.func119, Tryz.ntmps119;go_wp2;go_ret;exact ⟨rfl, rfl⟩
set_option maxHeartbeats 2000000 in
set_option maxRecDepth 100000 in
theorem znY (w : World) (b0 : Nat) (ty : TypeId) (L : List zW) (ver : Nat) (rv cv : Value) (R : List zA) (c : List ByteArray) (op b : Int) (G G' : Nat -> Prop) (hl : yR w b0 ty G L ver) (hL : L.length <= 1000) (hR : zM w rv (· < w.heap.size) R) (hf : Few R) (hc : zu w cv G' c) (h0 : zf0 R b c op = 0) :
  Calls Tryz.prog 91 #[.pointer (some ⟨b0, 0, none⟩), rv, .int .i64 op, cv, .int .i64 b] w fun e w' => e = .returned (.tuple #[.int .i64 (YS R b c op 0 0 L).1, .int .i64 (YS R b c op 0 0 L).2, .int .i64 0]) ∧ Chg (fun _ => False) w w' := by
 have M1 := zb (zaq w cv G' c hc);have FI := zb (fun w1 (q : Chg (fun _ => False) w w1) sv s (hs : zu w1 sv G s) => zlY w1 rv sv cv R s c b G G' (zbk hR q) hf hs (hc.chg q (fun _ _ e => e)));obtain ⟨la, cap, h1, h2, hcap, hcm⟩ := hl.open
 have H1 := zb h1;have H2 := zb h2;obtain ⟨ra, rcap, rfl, hl0, _⟩ := hR;obtain ⟨ca, ccap, rfl, hl1, _⟩ := hc;unfold maxLen at hl0 hl1 hcm
 obtain ⟨q1, q2⟩ : XR c = true ∧ ¬ (op < 0 ∨ 8 <= op) ∧ znQ true b R.length = 0 := by
  unfold zf0 at h0;cases hb : XR c with
  | false => rw [hb] at h0; simp at h0
  | true =>
   rw [hb, if_pos rfl] at h0;by_cases h : op < 0 ∨ 8 <= op
   ·rw [if_pos h] at h0; simp at h0
   ·rw [if_neg h] at h0; exact ⟨rfl, h, h0⟩
 obtain ⟨_, q3, q4, q5⟩ := znR q2.2;have q6 := q2.1;rw [q1] at M1;have g1 : decide (op < 0) = false := decide_eq_false (by omega);have g2 : decide (8 <= op) = false := decide_eq_false (by omega);have g3 : decide (1 <= b) = true := decide_eq_true (by omega);have g4 : decide (b <= 5000) = true := decide_eq_true (by omega);have g5 : decide (400 < (R.length : Int)) = false := decide_eq_false (by omega);clear hl h1 h2 hf h0 q1 q2 q6;have ST := zb (show YS R b c op 0 0 L = YS R b c op 0 0 (L.drop 0) from rfl);generalize YS R b c op 0 0 L = res at *;go_enter Tryz.func91, Tryz.ntmps91;go_wp2_with fail;(with_reducible refine M1.out.mono ?_);rintro e w2 ⟨rfl, d2⟩;have K2 := zb (show Chg (fun _ => False) w w2 from d2.chg);have c0 : w2.cell? ⟨b0, 0, none⟩ = some (.slice la L.length cap) := ze (K2.out.obj (fun e => e) H1.out) rfl;clear d2 M1;have BO := zb (zhc w2 b q3 q4);go_wp2_with fail;(with_reducible refine BO.out.mono ?_);rintro e w3 ⟨rfl, rfl⟩;clear BO;go_wp2;go_loopw [13, 41] (fun av iv wr => ∃ (k : Nat) (a : Int), k <= L.length ∧ iv = .int .i64 k ∧ av = .int .i64 a ∧ Hid (res = YS R b c op k a (L.drop k) ∧ Chg (fun _ => False) w wr)) (fun _ iv _ => L.length - (intOf iv).toNat)
 case atStart => exact ⟨0, 0, by omega, rfl, rfl, zb ⟨ST.out, K2.out⟩⟩
 case round =>
  obtain ⟨k, a, hk, rfl, rfl, HI⟩ := hrel;by_cases hlt : k < L.length
  ·obtain ⟨x, hx⟩ : ∃ x, L[k]? = some x := ⟨_, List.getElem?_eq_getElem hlt⟩
   obtain ⟨g, o, sa, sc, rfl, _, d0, d1, hs⟩ := (H2.out.chg HI.out.2 (fun _ _ e => e)).get hx;have ka := zh (fun _ => False) wr (.cells #[.int .i64 x.1, .slice sa x.2.length sc] 56);have KW := zb (HI.out.2.trans ka);have F := zb (FI.out _ KW.out _ x.2 (hs.at_.chg ka (fun _ _ e => e)));have STP := zb (show res = if x.1 = op then (if zg4 R b c x.2 = 1 then (1, (k : Int)) else YS R b c op (k + 1) (if zg4 R b c x.2 = 2 then 2 else a) (L.drop (k + 1))) else YS R b c op (k + 1) a (L.drop (k + 1)) from by rw [HI.out.1]; exact zjg hx);clear HI hx hs ka;generalize zg4 R b c x.2 = f at *;obtain ⟨oq, l⟩ := x;simp only at d0 d1 F STP KW;by_cases hop : oq = op
   ·have e1 : (oq != op) = false := by rw [bne_eq_false_iff_eq]; exact hop
    have e2 : (oq == op) = true := beq_iff_eq.2 hop;by_cases hf1 : f = 1
    ·have R1 := zb (show res = (1, (k : Int)) from by rw [STP.out, if_pos hop, if_pos hf1])
     subst hf1;clear STP hop;go_wp2_with fail;(with_reducible refine F.out.mono ?_);rintro e w4 ⟨rfl, k4⟩;have K4 := zb (KW.out.trans k4);clear k4 F;go_wp2;refine bodyPost_ret (v := .tuple #[.int .i64 1, .int .i64 k, .int .i64 0]) (by simp [results, Tryz.results91, go_sem]) rfl ?_;exact ⟨by rw [R1.out], K4.out⟩
    ·have m1 : (f == 1) = false := beq_eq_false_iff_ne.2 hf1
     by_cases hf2 : f = 2
     ·have R2 := zb (show res = YS R b c op (k + 1) 2 (L.drop (k + 1)) from by rw [STP.out, if_pos hop, if_neg hf1, if_pos hf2])
      subst hf2;clear STP hop hf1;go_wp2_with fail;(with_reducible refine F.out.mono ?_);rintro e w4 ⟨rfl, k4⟩;have K4 := zb (KW.out.trans k4);clear k4 F;go_wp2;go_roundw
      case rel => exact ⟨k + 1, 2, by omega, by go_num, rfl, zb ⟨R2.out, K4.out⟩⟩
      case measure => simp [intOf]; omega
     ·have m2 : (f == 2) = false := beq_eq_false_iff_ne.2 hf2
      have R2 := zb (show res = YS R b c op (k + 1) a (L.drop (k + 1)) from by rw [STP.out, if_pos hop, if_neg hf1, if_neg hf2]);clear STP hop hf1 hf2;go_wp2_with fail;(with_reducible refine F.out.mono ?_);rintro e w4 ⟨rfl, k4⟩;have K4 := zb (KW.out.trans k4);clear k4 F;go_wp2;go_roundw
      case rel => exact ⟨k + 1, a, by omega, by go_num, rfl, zb ⟨R2.out, K4.out⟩⟩
      case measure => simp [intOf]; omega
   ·have e1 : (oq != op) = true := by rw [bne_iff_ne]; exact hop
    have e2 : (oq == op) = false := beq_eq_false_iff_ne.2 hop;have R2 := zb (show res = YS R b c op (k + 1) a (L.drop (k + 1)) from by rw [STP.out, if_neg hop]);clear STP hop F;go_wp2;go_roundw
    case rel => exact ⟨k + 1, a, by omega, by go_num, rfl, zb ⟨R2.out, KW.out⟩⟩
    case measure => simp [intOf]; omega
  ·obtain rfl : k = L.length := by omega
   have R := zb (show res = (a, -1) from by rw [HI.out.1, List.drop_length]; rfl);go_wp2;refine bodyPost_ret (v := .tuple #[.int .i64 a, .int .i64 (-1), .int .i64 0]) (by simp [results, Tryz.results91, go_sem]) rfl ?_;exact ⟨by rw [R.out], HI.out.2⟩
abbrev zG := List (Int × Int)
structure zF where
 cert : Int
 paths : List zG
structure zS where
 items : List zF
 steps : zG
def zeG (C : List zn) (k : Int) : Nat := match C[k.toNat]? with
 | some c => c.fr.length
 | none => 0
def tot (C : List zn) (I : List zF) (k : Nat) : Nat := ((I.take k).map fun x => zeG C x.cert).sum
theorem zcq (C : List zn) (I : List zF) : tot C I 0 = 0 := by simp [tot]
theorem zej {C : List zn} {I : List zF} {k : Nat} {x : zF} (h : I[k]? = some x) : tot C I (k + 1) = tot C I k + zeG C x.cert := by
 unfold tot;rw [List.take_add_one, h];simp
theorem zjr (C : List zn) (I : List zF) (k : Nat) : tot C I k <= tot C I (k + 1) := by
 cases h : I[k]? with
 | some x => rw [zej h]; omega
 | none =>
  have := List.getElem?_eq_none_iff.1 h;unfold tot;rw [List.take_of_length_le this, List.take_of_length_le (by omega)];exact Nat.le_refl _
theorem zcr (C : List zn) (I : List zF) {i j : Nat} (h : i <= j) : tot C I i <= tot C I j := by
 induction h with
 | refl => exact Nat.le_refl _
 | step _ ih => exact Nat.le_trans ih (zjr C I _)
theorem ze6 {C : List zn} {m : Nat} (hC : ∀ c ∈ C, c.fr.length <= m) (I : List zF) (k : Nat) : tot C I k <= k * m := by
 induction k with
 | zero => rw [zcq]; omega
 | succ k ih =>
  cases h : I[k]? with
  | some x =>
   rw [zej h, Nat.succ_mul]
   have : zeG C x.cert <= m := by
    unfold zeG;split
    ·rename_i c hc
     exact hC c (List.mem_of_getElem? hc)
    ·exact Nat.zero_le _
   omega
  | none =>
   have h2 := List.getElem?_eq_none_iff.1 h
   have e : tot C I (k + 1) = tot C I k := by
    unfold tot;rw [List.take_of_length_le h2, List.take_of_length_le (by omega)]
   rw [e, Nat.succ_mul];omega
def xr (roots : Int) (n : Nat) (s : Int × Int) : Bool := decide (0 <= s.2) && decide (s.2 < roots + n)
def yz (roots : Int) (n : Nat) (l : zG) : Bool := l.all (xr roots n)
def zeD (roots : Int) (C : List zn) (I : List zF) (k : Nat) (x : zF) : Bool := decide (0 <= x.cert) && (decide (x.cert < C.length) && x.paths.all (yz roots (tot C I k)))
def ym (C : List zn) (I : List zF) (k : Nat) : List Nat := (List.range k).map (tot C I)
theorem zeK (C : List zn) (I : List zF) (k : Nat) : ym C I (k + 1) = ym C I k ++ [tot C I k] := by
 unfold ym;rw [List.range_succ, List.map_append]; rfl
theorem Ym (C : List zn) (I : List zF) (k : Nat) : (ym C I k).length = k := by unfold ym; simp
def zV (C : List zn) (I : List zF) : List Nat := ym C I (I.length + 1)
theorem Xw (C : List zn) (I : List zF) : (zV C I).length = I.length + 1 := Ym _ _ _
theorem zeb {C : List zn} {I : List zF} {k : Nat} (h : k <= I.length) : (zV C I)[k]? = some (tot C I k) := by
 unfold zV ym;rw [List.getElem?_map, List.getElem?_range (by omega)]; rfl
structure xG (roots : Int) (C : List zn) (p : zS) : Prop where
 root : 0 <= roots
 item : ∀ (k : Nat) x, p.items[k]? = some x -> zeD roots C p.items k x = true
 last : yz roots (tot C p.items p.items.length) p.steps = true
def XE (roots : Int) (B : List Nat) (r : Int) : Option Nat := if r < roots then none else some (B.countP (fun b => decide (b <= (r - roots).toNat)) - 1)
def zgV (roots : Int) (B : List Nat) (need : List Bool) (s : Int × Int) : List Bool := match XE roots B s.2 with
 | some i => need.set i true
 | none => need
def zbo (roots : Int) (B : List Nat) (need : List Bool) (l : zG) : List Bool := l.foldl (zgV roots B) need
def zdB (roots : Int) (B : List Nat) (need : List Bool) (ps : List zG) : List Bool := ps.foldl (zbo roots B) need
def zhg (roots : Int) (B : List Nat) (I : List zF) (need : List Bool) (k : Nat) : List Bool := match need[k]? with
 | some true => (match I[k]? with
  | some x => zdB roots B need x.paths
  | none => need)
 | _ => need
def xN (roots : Int) (B : List Nat) (I : List zF) : Nat -> List Bool -> List Bool
 | 0, need => need
 | k + 1, need => xN roots B I k (zhg roots B I need k)
def zdA (roots : Int) (B : List Nat) (p : zS) : List Bool := xN roots B p.items p.items.length (zbo roots B (List.replicate p.items.length false) p.steps)
theorem zfy (roots : Int) (B : List Nat) (need : List Bool) (s : Int × Int) : (zgV roots B need s).length = need.length := by
 unfold zgV;split
 ·exact List.length_set
 ·rfl
theorem xK (roots : Int) (B : List Nat) (l : zG) : ∀ need : List Bool, (zbo roots B need l).length = need.length := by
 unfold zbo;induction l with
 | nil => intro need; rfl
 | cons s l ih => intro need; rw [List.foldl_cons, ih, zfy]
theorem zcc (roots : Int) (B : List Nat) (ps : List zG) : ∀ need : List Bool, (zdB roots B need ps).length = need.length := by
 unfold zdB;induction ps with
 | nil => intro need; rfl
 | cons s l ih => intro need; rw [List.foldl_cons, ih, xK]
theorem zfX (roots : Int) (B : List Nat) (I : List zF) (need : List Bool) (k : Nat) : (zhg roots B I need k).length = need.length := by
 unfold zhg;split
 ·split
  ·exact zcc _ _ _ _
  ·rfl
 ·rfl
theorem zbA (roots : Int) (B : List Nat) (I : List zF) : ∀ (k : Nat) (need : List Bool), (xN roots B I k need).length = need.length
 | 0, need => rfl
 | k + 1, need => by unfold xN; rw [zbA, zfX]
theorem zcb (roots : Int) (B : List Nat) (p : zS) : (zdA roots B p).length = p.items.length := by unfold zdA; rw [zbA, xK, List.length_replicate]
def zaN (C : List zn) (I : List zF) (need : List Bool) : Nat -> Nat
 | 0 => 0
 | k + 1 => zaN C I need k + (if need.getD k false then 0 else tot C I (k + 1) - tot C I k)
def zkT (roots : Int) (B : List Nat) (gone : Nat -> Nat) (s : Int × Int) : Int × Int := match XE roots B s.2 with
 | some i => (s.1, s.2 - gone i)
 | none => s
def za7 (roots : Int) (B : List Nat) (gone : Nat -> Nat) (l : zG) : zG := l.map (zkT roots B gone)
def zkf (roots : Int) (B : List Nat) (gone : Nat -> Nat) (need : List Bool) (I : List zF) (i : Nat) : Option zF := match I[i]? with
 | some x => if need.getD i false then some ⟨x.cert, x.paths.map (za7 roots B gone)⟩ else none
 | none => none
def zcd (roots : Int) (B : List Nat) (gone : Nat -> Nat) (need : List Bool) (I : List zF) (k : Nat) : List zF := (List.range k).filterMap (zkf roots B gone need I)
theorem zc4 (roots : Int) (B : List Nat) (gone : Nat -> Nat) (need : List Bool) (I : List zF) (k : Nat) : zcd roots B gone need I (k + 1) = zcd roots B gone need I k ++ (zkf roots B gone need I k).toList := by
 unfold zcd;rw [List.range_succ, List.filterMap_append];cases h : zkf roots B gone need I k with
 | none => simp [h]
 | some x => simp [h]
theorem zeB (roots : Int) (B : List Nat) (gone : Nat -> Nat) (need : List Bool) (I : List zF) (k : Nat) : (zcd roots B gone need I k).length <= k := by
 unfold zcd;exact Nat.le_trans (List.length_filterMap_le _ _) (by rw [List.length_range]; exact Nat.le_refl _)
def zkE (roots : Int) (C : List zn) (p : zS) : zS :=
 let B := zV C p.items;let need := zdA roots B p;let gone := zaN C p.items need
 ⟨zcd roots B gone need p.items p.items.length, za7 roots B gone p.steps⟩
theorem zhI {roots : Int} {C : List zn} {I : List zF} {s : Int × Int} {k i : Nat} (hs : xr roots (tot C I k) s = true) (hk : k <= I.length) (h : XE roots (zV C I) s.2 = some i) : i < k ∧ 1 <= (zV C I).countP (fun b => decide (b <= (s.2 - roots).toNat)) := by
 unfold xr at hs;rw [Bool.and_eq_true, decide_eq_true_eq, decide_eq_true_eq] at hs;unfold XE at h;split at h
 ·cases h
 rename_i hr;have hq : (s.2 - roots).toNat < tot C I k := by omega
 generalize (s.2 - roots).toNat = q at h hq ⊢
 have h1 : (zV C I).countP (fun b => decide (b <= q)) <= k := by
  have e : zV C I = ym C I k ++ (List.range' k (I.length + 1 - k)).map (tot C I) := by
   unfold zV ym;rw [<- List.map_append, List.range_eq_range', List.range_eq_range']
   congr 1
   have := @List.range'_append_1 0 k (I.length + 1 - k);rw [Nat.zero_add] at this;rw [this]
   congr 1
   omega
  rw [e, List.countP_append]
  have z : ((List.range' k (I.length + 1 - k)).map (tot C I)).countP (fun b => decide (b <= q)) = 0 := by
   rw [List.countP_eq_zero];intro b hb;obtain ⟨j, hj, rfl⟩ := List.mem_map.1 hb;have := (List.mem_range'_1.1 hj).1;have := zcr C I this;simp;omega
  rw [z, Nat.add_zero];refine Nat.le_trans List.countP_le_length ?_;rw [Ym];exact Nat.le_refl _
 have h2 : 1 <= (zV C I).countP (fun b => decide (b <= q)) := by
  have : 0 < (zV C I).countP (fun b => decide (b <= q)) := by
   rw [List.countP_pos_iff];refine ⟨tot C I 0, ?_, ?_⟩
   ·exact List.mem_of_getElem? (zeb (k := 0) (Nat.zero_le _))
   ·rw [zcq]; simp
  omega
 have e : (zV C I).countP (fun b => decide (b <= q)) - 1 = i := Option.some.inj h;exact ⟨by omega, h2⟩
structure Yn (w : World) (v : Value) (G : Nat -> Prop) (L : zG) : Prop where
 at_ : yw w v G L
 nil : ∀ n c, v = .slice none n c -> n = 0 ∧ c = 0
theorem Yn.chg {S : Nat -> Prop} {w w' : World} {v : Value} {G : Nat -> Prop} {L : zG} (h : Yn w v G L) (hc : Chg S w w') (hs : ∀ k, G k -> ¬ S k) : Yn w' v G L := ⟨h.at_.chg hc hs, h.nil⟩
theorem yw.up13 {w : World} {v : Value} {G G' : Nat -> Prop} {L : zG} (h : yw w v G L) (hg : ∀ k, G k -> G' k) : yw w v G' L := by
 obtain ⟨la, cap, h1, h2, h3⟩ := h;exact ⟨la, cap, h1, h2, fun j r hj => by obtain ⟨lb, lo, q1, q2, q3⟩ := h3 j r hj; exact ⟨lb, lo, q1, hg _ q2, q3⟩⟩
theorem Yn.up {w : World} {v : Value} {G G' : Nat -> Prop} {L : zG} (h : Yn w v G L) (hg : ∀ k, G k -> G' k) : Yn w v G' L := ⟨h.at_.up13 hg, h.nil⟩
def yo (w : World) (v : Value) (G : Nat -> Prop) (P : List zG) : Prop :=
 ∃ la cap, v = .slice la P.length cap ∧ P.length <= maxLen ∧ ∀ (j : Nat) L, P[j]? = some L -> ∃ lb lo sv, la = some ⟨lb, lo, none⟩ ∧ G lb ∧ w.cell? ⟨lb, lo + j, none⟩ = some sv ∧ Yn w sv G L
theorem yo.chg {S : Nat -> Prop} {w w' : World} {v : Value} {G : Nat -> Prop} {P : List zG} (h : yo w v G P) (hc : Chg S w w') (hs : ∀ k, G k -> ¬ S k) : yo w' v G P := by
 obtain ⟨la, cap, h1, h2, h3⟩ := h;exact ⟨la, cap, h1, h2, fun j L hj => by obtain ⟨lb, lo, sv, q1, q2, q3, q4⟩ := h3 j L hj; exact ⟨lb, lo, sv, q1, q2, zi hc (hs lb q2) q3, q4.chg hc hs⟩⟩
theorem yo.up {w : World} {v : Value} {G G' : Nat -> Prop} {P : List zG} (h : yo w v G P) (hg : ∀ k, G k -> G' k) : yo w v G' P := by
 obtain ⟨la, cap, h1, h2, h3⟩ := h;exact ⟨la, cap, h1, h2, fun j L hj => by obtain ⟨lb, lo, sv, q1, q2, q3, q4⟩ := h3 j L hj; exact ⟨lb, lo, sv, q1, hg _ q2, q3, q4.up hg⟩⟩
def Ys (w : World) (v : Value) (G : Nat -> Prop) (I : List zF) : Prop :=
 ∃ la cap, v = .slice la I.length cap ∧ I.length <= maxLen ∧ ∀ (j : Nat) x, I[j]? = some x -> ∃ lb lo pv, la = some ⟨lb, lo, none⟩ ∧ G lb ∧ w.cell? ⟨lb, lo + j * 2, none⟩ = some (.int .i64 x.cert) ∧ w.cell? ⟨lb, lo + j * 2 + 1, none⟩ = some pv ∧ yo w pv G x.paths
structure yg (w : World) (iv sv : Value) (G : Nat -> Prop) (p : zS) : Prop where
 items : Ys w iv G p.items
 steps : Yn w sv G p.steps
theorem Ys.chg {S : Nat -> Prop} {w w' : World} {v : Value} {G : Nat -> Prop} {I : List zF} (h : Ys w v G I) (hc : Chg S w w') (hs : ∀ k, G k -> ¬ S k) : Ys w' v G I := by
 obtain ⟨la, cap, h1, h2, h3⟩ := h;exact ⟨la, cap, h1, h2, fun j x hj => by obtain ⟨lb, lo, pv, q1, q2, q3, q4, q5⟩ := h3 j x hj; exact ⟨lb, lo, pv, q1, q2, zi hc (hs lb q2) q3, zi hc (hs lb q2) q4, q5.chg hc hs⟩⟩
theorem Ys.up {w : World} {v : Value} {G G' : Nat -> Prop} {I : List zF} (h : Ys w v G I) (hg : ∀ k, G k -> G' k) : Ys w v G' I := by
 obtain ⟨la, cap, h1, h2, h3⟩ := h;exact ⟨la, cap, h1, h2, fun j x hj => by obtain ⟨lb, lo, pv, q1, q2, q3, q4, q5⟩ := h3 j x hj; exact ⟨lb, lo, pv, q1, hg _ q2, q3, q4, q5.up hg⟩⟩
theorem yg.chg {S : Nat -> Prop} {w w' : World} {iv sv : Value} {G : Nat -> Prop} {p : zS} (h : yg w iv sv G p) (hc : Chg S w w') (hs : ∀ k, G k -> ¬ S k) : yg w' iv sv G p := ⟨h.items.chg hc hs, h.steps.chg hc hs⟩
theorem yg.up {w : World} {iv sv : Value} {G G' : Nat -> Prop} {p : zS} (h : yg w iv sv G p) (hg : ∀ k, G k -> G' k) : yg w iv sv G' p := ⟨h.items.up hg, h.steps.up hg⟩
theorem Ys.shape {w : World} {v : Value} {G : Nat -> Prop} {I : List zF} (h : Ys w v G I) : ∃ a c, v = .slice a I.length c := by
 obtain ⟨la, cap, h1, _⟩ := h;exact ⟨la, cap, h1⟩
theorem yo.shape {w : World} {v : Value} {G : Nat -> Prop} {P : List zG} (h : yo w v G P) : ∃ a c, v = .slice a P.length c := by
 obtain ⟨la, cap, h1, _⟩ := h;exact ⟨la, cap, h1⟩
theorem yo.len {w : World} {v : Value} {G : Nat -> Prop} {P : List zG} (h : yo w v G P) : P.length <= 9223372036854775807 := by
 obtain ⟨_, _, _, h1, _⟩ := h;unfold maxLen at h1;omega
theorem Yn.shape {w : World} {v : Value} {G : Nat -> Prop} {L : zG} (h : Yn w v G L) : ∃ a c, v = .slice a L.length c := by
 obtain ⟨la, cap, h1, _⟩ := h.at_;exact ⟨la, cap, h1⟩
open Go.ChangeShapes Go.WideShapes Go.ChangeAt
def zbE (x : Int) : Prop := -9223372036854775808 <= x ∧ x <= 9223372036854775807
def yT (l : zG) : Prop := ∀ s ∈ l, zbE s.1 ∧ zbE s.2
structure YI (p : zS) : Prop where
 items : ∀ x ∈ p.items, zbE x.cert ∧ ∀ l ∈ x.paths, yT l
 steps : yT p.steps
theorem Tryz.cellsItem : Tryz.prog.cellsOf 98 = 2 := by kernel_rfl
theorem Tryz.cellsSteps : Tryz.prog.cellsOf 81 = 1 := by kernel_rfl
theorem Tryz.cellsPaths : Tryz.prog.cellsOf 96 = 1 := by kernel_rfl
theorem Tryz.cellsItems : Tryz.prog.cellsOf 80 = 1 := by kernel_rfl
theorem Tryz.cellsProof : Tryz.prog.cellsOf 83 = 2 := by kernel_rfl
section
variable {W : World} {H : Type} {enc : TypeId × Value -> H}
instance : Inhabited zF := ⟨⟨0, []⟩⟩
end
end Go.Proofs.YthdfplafihmejaaGreat
