/-
  Package acl: fits, Fits, Ask.
  Package acl: Ask.
-/
import Derived.Test.YthdfplafihmejaaGreatANew
import Derived.Test.YthdfplafihmejaaGreatRHelp
namespace Go.Proofs.YthdfplafihmejaaGreat
open Go.RowKit Go.Maps

/-! plain -/
def anyB (c l : List ByteArray) : Bool := l.any (hasB c)
def metB (R : List BRul) (b : Int) (c : List ByteArray) (x : ByteArray) : Bool := anyB c (tellL R x b)
def fitGo (R : List BRul) (b : Int) (c : List ByteArray) : Int → List ByteArray → Int
 | a, [] => a
 | a, x :: r => if rowErr R x b ≠ 0 then 2 else fitGo R b c (if metB R b c x = true then a else 0) r
def fitV (R : List BRul) (b : Int) (c s : List ByteArray) : Int := fitGo R b c 1 s
theorem fitGo_step {R : List BRul} {b : Int} {c l : List ByteArray} {a : Int} {k : Nat} {x : ByteArray} (hx : l[k]? = some x) : fitGo R b c a (l.drop k) = if rowErr R x b ≠ 0 then 2 else fitGo R b c (if metB R b c x = true then a else 0) (l.drop (k + 1)) := by
 have hl := (List.getElem?_eq_some_iff.1 hx).1
 rw [List.drop_eq_getElem_cons hl, (List.getElem?_eq_some_iff.1 hx).2, fitGo]
/-- What is wrong with what Ask and Fits are asked. -/
def badE (ok : Bool) (b : Int) (n : Nat) : Int := if ok = true then (if b < 1 ∨ 5000 < b then 1 else if 400 < n then 3 else 0) else 2
def fitsE (R : List BRul) (b : Int) (c s : List ByteArray) : Int × Int := if badE (setB s && setB c) b R.length = 0 then (fitV R b c s, 0) else (0, badE (setB s && setB c) b R.length)
def askGo (R : List BRul) (b : Int) (c : List ByteArray) (op : Int) : Nat → Int → List BEnt → Int × Int
 | _, a, [] => (a, -1)
 | i, a, x :: r => if x.1 = op then (if fitV R b c x.2 = 1 then (1, (i : Int)) else askGo R b c op (i + 1) (if fitV R b c x.2 = 2 then 2 else a) r) else askGo R b c op (i + 1) a r
theorem askGo_step {R : List BRul} {b : Int} {c : List ByteArray} {op : Int} {L : List BEnt} {a : Int} {k : Nat} {x : BEnt} (hx : L[k]? = some x) : askGo R b c op k a (L.drop k) = if x.1 = op then (if fitV R b c x.2 = 1 then (1, (k : Int)) else askGo R b c op (k + 1) (if fitV R b c x.2 = 2 then 2 else a) (L.drop (k + 1))) else askGo R b c op (k + 1) a (L.drop (k + 1)) := by
 have hl := (List.getElem?_eq_some_iff.1 hx).1
 rw [List.drop_eq_getElem_cons hl, (List.getElem?_eq_some_iff.1 hx).2, askGo]
def askBad (R : List BRul) (b : Int) (c : List ByteArray) (op : Int) : Int := if setB c = true then (if op < 0 ∨ 8 ≤ op then 1 else badE true b R.length) else 2
def askV (R : List BRul) (b : Int) (c : List ByteArray) (op : Int) (L : List BEnt) : Int × Int × Int :=
 if askBad R b c op = 0 then ((askGo R b c op 0 0 L).1, (askGo R b c op 0 0 L).2, 0) else (0, 0, askBad R b c op)
def Few (R : List BRul) : Prop := (R.length ≤ 400 ∧ ∀ r ∈ R, r.1.size ≤ 400) ∨ 400 < R.length
theorem words_asks {w w1 : World} {rv sv : Value} {R : List BRul} {G : Nat → Prop} {s : List ByteArray} (hR : RulesAt w rv (· < w.heap.size) R) (hf : Few R) (hs : WordsAt w sv G s) (k : Chg (fun _ => False) w w1) {j : Nat} {x : ByteArray} (hx : s[j]? = some x) : Asks w1 rv R x := by
 obtain ⟨_, _, _, _, hc⟩ := hs
 obtain ⟨_, _, _, _, _, q⟩ := hc j x hx
 exact ⟨rules_up hR k, hf, q⟩

/-! the closure of fits -/
theorem fits1_any (w : World) (cv : Value) (c : List ByteArray) (G : Nat → Prop) (x : ByteArray) (p : Nat) (hp : w.cell? ⟨p, 0, none⟩ = some cv) (hc : WordsAt w cv G c) :
  Calls Tryz.prog 136 #[.string x, .pointer (some ⟨p, 0, none⟩)] w fun e w' => e = .returned (.bool (hasB c x)) ∧ w = w' := by
 have HA := Lib.hid (has_any w cv G c x hc)
 obtain ⟨la, cap, rfl, _, _⟩ := hc
 go_enter Tryz.func136, Tryz.ntmps136
 go_wp2_with fail
 (with_reducible refine (HA.out).mono ?_)
 rintro e w2 ⟨rfl, rfl⟩
 go_wp2
 go_ret
 exact ⟨rfl, rfl⟩
theorem anyC_take {c l : List ByteArray} {k : Nat} {x : ByteArray} (hx : l[k]? = some x) : anyB c (l.take (k + 1)) = (anyB c (l.take k) || hasB c x) := by
 unfold anyB
 rw [List.take_add_one, hx, List.any_append]; simp
set_option maxRecDepth 100000 in
theorem indexW_any (w : World) (v cv : Value) (l c : List ByteArray) (G G' : Nat → Prop) (p : Nat) (hp : w.cell? ⟨p, 0, none⟩ = some cv) (hc : WordsAt w cv G c) (hv : WordsAt w v G' l) :
  Calls Tryz.prog 155 #[v, .func (.func 136) #[] #[.pointer (some ⟨p, 0, none⟩)]] w fun e w' => (∃ i : Int, e = .returned (.int .i64 i) ∧ decide (0 ≤ i) = anyB c l) ∧ w = w' := by
 have FI := Lib.hid (fun x => fits1_any w cv c G x p hp hc)
 obtain ⟨la, cap, rfl, hl0, hcl⟩ := hv
 have HCL := Lib.hid hcl
 unfold maxLen at hl0
 clear hcl hp hc
 go_enter Tryz.func155, Tryz.ntmps155
 go_wp2
 go_loop [8] (fun iv => ∃ k : Nat, k ≤ l.length ∧ iv = .int .i64 k ∧ Hid (anyB c (l.take k) = false)) (fun iv => l.length - (intOf iv).toNat)
 case atStart => exact ⟨0, by omega, rfl, Lib.hid rfl⟩
 case round =>
  obtain ⟨k, hk, rfl, HI⟩ := hrel
  by_cases hlt : k < l.length
  ·obtain ⟨x, hx⟩ : ∃ x, l[k]? = some x := ⟨_, List.getElem?_eq_getElem hlt⟩
   obtain ⟨lb, lo, rfl, _, c0, _⟩ := HCL.out k x hx
   have F := Lib.hid (FI.out x)
   have AT := Lib.hid (anyC_take (c := c) hx)
   have HX := Lib.hid hx
   clear hx FI
   generalize hb : hasB c x = r at *
   have HB := Lib.hid hb
   clear hb
   cases r with
   | true =>
    have R := Lib.hid (show anyB c l = true from by
     unfold anyB
     rw [List.any_eq_true]
     exact ⟨x, List.mem_of_getElem? HX.out, HB.out⟩)
    clear HI AT
    go_wp2_with fail
    (with_reducible refine (F.out).mono ?_)
    rintro e w2 ⟨rfl, rfl⟩
    go_wp2
    go_ret
    exact ⟨⟨_, rfl, by rw [R.out]; exact decide_eq_true (by omega)⟩, rfl⟩
   | false =>
    have HI2 := Lib.hid (show anyB c (l.take (k + 1)) = false from by rw [AT.out, HI.out]; rfl)
    clear HI AT
    go_wp2_with fail
    (with_reducible refine (F.out).mono ?_)
    rintro e w2 ⟨rfl, rfl⟩
    go_wp2
    go_round
    case rel => exact ⟨k + 1, by omega, by go_num, HI2⟩
    case measure => simp [intOf]; omega
  ·obtain rfl : k = l.length := by omega
   rw [List.take_length] at HI
   go_wp2
   go_ret
   exact ⟨⟨-1, rfl, by rw [HI.out]; rfl⟩, rfl⟩
set_option maxRecDepth 100000 in
theorem containsW_any (w : World) (v cv : Value) (l c : List ByteArray) (G G' : Nat → Prop) (p : Nat) (hp : w.cell? ⟨p, 0, none⟩ = some cv) (hc : WordsAt w cv G c) (hv : WordsAt w v G' l) :
  Calls Tryz.prog 135 #[v, .func (.func 136) #[] #[.pointer (some ⟨p, 0, none⟩)]] w fun e w' => e = .returned (.bool (anyB c l)) ∧ w = w' := by
 have IX := Lib.hid (indexW_any w v cv l c G G' p hp hc hv)
 obtain ⟨la, cap, rfl, hl0, hcl⟩ := hv
 clear hcl hp hc
 generalize anyB c l = r at *
 go_enter Tryz.func135, Tryz.ntmps135
 go_wp2_with fail
 (with_reducible refine (IX.out).mono ?_)
 rintro e w2 ⟨⟨i, rfl, hi⟩, rfl⟩
 go_wp2
 go_ret
 exact ⟨rfl, rfl⟩
set_option maxHeartbeats 1000000 in
set_option maxRecDepth 100000 in
theorem fits_any (w : World) (rv sv cv : Value) (R : List BRul) (s c : List ByteArray) (b : Int) (G G' : Nat → Prop) (hR : RulesAt w rv (· < w.heap.size) R) (hf : Few R) (hs : WordsAt w sv G s) (hc : WordsAt w cv G' c) :
  Calls Tryz.prog 120 #[rv, sv, cv, .int .i64 b] w fun e w' => e = .returned (.int .i64 (fitV R b c s)) ∧ Chg (fun _ => False) w w' := by
 have ALL := Lib.hid (fun w1 (k : Chg (fun _ => False) w w1) j x (hx : s[j]? = some x) => all_tells (b := b) (words_asks hR hf hs k hx))
 have HC := Lib.hid hc
 have HS := Lib.hid hs
 obtain ⟨ra, rcap, rfl, _, _⟩ := hR
 obtain ⟨sa, scap, rfl, hl0, _⟩ := hs
 obtain ⟨ca, ccap, rfl, hl1, _⟩ := hc
 unfold maxLen at hl0 hl1
 clear hf
 have ST := Lib.hid (show fitV R b c s = fitGo R b c 1 (s.drop 0) from rfl)
 generalize fitV R b c s = res at *
 go_enter Tryz.func120, Tryz.ntmps120
 go_wp2
 have ka := chg_alloc (fun _ => False) w (.cells #[.slice ca c.length ccap] 26)
 have OB := Lib.hid (obj_alloc_new w (.cells #[.slice ca c.length ccap] 26))
 have KA := Lib.hid ka
 clear ka
 go_loopw [9, 16] (fun av iv wr => ∃ (k : Nat) (a : Int), k ≤ s.length ∧ iv = .int .i64 k ∧ av = .int .i64 a ∧ Hid (res = fitGo R b c a (s.drop k) ∧ Chg (fun _ => False) (w.alloc (.cells #[.slice ca c.length ccap] 26)) wr)) (fun _ iv _ => s.length - (intOf iv).toNat)
 case atStart => exact ⟨0, 1, by omega, rfl, rfl, Lib.hid ⟨ST.out, Chg.refl _ _⟩⟩
 case round =>
  obtain ⟨k, a, hk, rfl, rfl, HI⟩ := hrel
  have KW := Lib.hid (KA.out.trans HI.out.2)
  by_cases hlt : k < s.length
  ·obtain ⟨x, hx⟩ : ∃ x, s[k]? = some x := ⟨_, List.getElem?_eq_getElem hlt⟩
   obtain ⟨sa', scap', e1, _, hcl⟩ := HS.out.chg KW.out (fun _ _ e => e)
   cases e1
   obtain ⟨lb, lo, rfl, _, c0, _⟩ := hcl k x hx
   have AL := Lib.hid (ALL.out wr KW.out k x hx)
   have FS := Lib.hid (show res = if rowErr R x b ≠ 0 then 2 else fitGo R b c (if metB R b c x = true then a else 0) (s.drop (k + 1)) from by rw [HI.out.1]; exact fitGo_step hx)
   have KI := Lib.hid HI.out.2
   clear hcl hx HI
   by_cases he : rowErr R x b = 0
   ·rw [he] at AL
    have FS2 := Lib.hid (show res = fitGo R b c (if metB R b c x = true then a else 0) (s.drop (k + 1)) from by rw [FS.out, if_neg (by rw [he]; simp)])
    have MB := Lib.hid (show metB R b c x = anyB c (tellL R x b) from rfl)
    clear FS he
    generalize tellL R x b = T at *
    go_wp2_with fail
    (with_reducible refine (AL.out).mono ?_)
    rintro e w2 ⟨va, rfl, hva, k2⟩
    have K2 := Lib.hid (KI.out.trans k2)
    have KW2 := Lib.hid (KW.out.trans k2)
    have ob := K2.out.obj (fun e => e) OB.out
    have CT := Lib.hid (containsW_any w2 va (.slice ca c.length ccap) T c G' _ w.heap.size (cell_of ob rfl) (HC.out.chg KW2.out (fun _ _ e => e)) hva)
    obtain ⟨va1, va2, eva, _, _⟩ := hva
    subst eva
    generalize hm : anyB c T = m at *
    clear k2 ob AL KI KW hm
    cases m with
    | true =>
     have FS3 := Lib.hid (show res = fitGo R b c a (s.drop (k + 1)) from by rw [FS2.out, MB.out]; rfl)
     clear FS2 MB
     go_wp2_with fail
     (with_reducible refine (CT.out).mono ?_)
     rintro e w3 ⟨rfl, rfl⟩
     go_wp2
     go_roundw
     case rel => exact ⟨k + 1, a, by omega, by go_num, rfl, Lib.hid ⟨FS3.out, K2.out⟩⟩
     case measure => simp [intOf]; omega
    | false =>
     have FS3 := Lib.hid (show res = fitGo R b c 0 (s.drop (k + 1)) from by rw [FS2.out, MB.out]; rfl)
     clear FS2 MB
     go_wp2_with fail
     (with_reducible refine (CT.out).mono ?_)
     rintro e w3 ⟨rfl, rfl⟩
     go_wp2
     go_roundw
     case rel => exact ⟨k + 1, 0, by omega, by go_num, rfl, Lib.hid ⟨FS3.out, K2.out⟩⟩
     case measure => simp [intOf]; omega
   ·have R2 := Lib.hid (show res = 2 from by rw [FS.out, if_pos he])
    have g1 : (rowErr R x b != 0) = true := by rw [bne_iff_ne]; exact he
    have g2 : (rowErr R x b == 0) = false := by rw [beq_eq_false_iff_ne]; exact he
    clear FS he
    generalize rowErr R x b = ek at *
    go_wp2_with fail
    (with_reducible refine (AL.out).mono ?_)
    rintro e w2 ⟨va, rfl, ⟨va1, va2, rfl, _, _⟩, k2⟩
    have K2 := Lib.hid (KW.out.trans k2)
    clear k2 AL
    go_wp2
    go_ret
    exact ⟨by rw [R2.out]; rfl, K2.out⟩
  ·obtain rfl : k = s.length := by omega
   have R := Lib.hid (show res = a from by rw [HI.out.1, List.drop_length]; rfl)
   go_wp2
   go_ret
   exact ⟨by rw [R.out]; rfl, KW.out⟩
theorem ba_len {b : Int} {n : Nat} {ok : Bool} (h : badE ok b n = 0) : ok = true ∧ 1 ≤ b ∧ b ≤ 5000 ∧ n ≤ 400 := by
 unfold badE at h
 cases ok with
 | false => simp at h
 | true =>
  by_cases h1 : b < 1 ∨ 5000 < b
  ·simp [h1] at h
  ·by_cases h2 : 400 < n
   ·simp [h1, h2] at h
   ·exact ⟨rfl, by omega, by omega, by omega⟩
end Go.Proofs.YthdfplafihmejaaGreat

namespace Go.Proofs.YthdfplafihmejaaGreat
open Go.RowKit Go.Maps

theorem bounded_yes (w : World) (b : Int) (h1 : 1 ≤ b) (h2 : b ≤ 5000) : Calls Tryz.prog 119 #[.int .i64 b] w fun e w' => e = .returned (.bool true) ∧ w = w' := by
 have g3 : decide (1 ≤ b) = true := decide_eq_true h1
 have g4 : decide (b ≤ 5000) = true := decide_eq_true h2
 go_enter Tryz.func119, Tryz.ntmps119
 go_wp2
 go_ret
 exact ⟨rfl, rfl⟩
set_option maxHeartbeats 2000000 in
set_option maxRecDepth 100000 in
theorem ask_ok (w : World) (b0 : Nat) (ty : TypeId) (L : List BEnt) (ver : Nat) (rv cv : Value) (R : List BRul) (c : List ByteArray) (op b : Int) (G G' : Nat → Prop) (hl : ListAt w b0 ty G L ver) (hL : L.length ≤ 1000) (hR : RulesAt w rv (· < w.heap.size) R) (hf : Few R) (hc : WordsAt w cv G' c) (h0 : askBad R b c op = 0) :
  Calls Tryz.prog 91 #[.pointer (some ⟨b0, 0, none⟩), rv, .int .i64 op, cv, .int .i64 b] w fun e w' => e = .returned (.tuple #[.int .i64 (askGo R b c op 0 0 L).1, .int .i64 (askGo R b c op 0 0 L).2, .int .i64 0]) ∧ Chg (fun _ => False) w w' := by
 have M1 := Lib.hid (setMay_any w cv G' c hc)
 have FI := Lib.hid (fun w1 (q : Chg (fun _ => False) w w1) sv s (hs : WordsAt w1 sv G s) => fits_any w1 rv sv cv R s c b G G' (rules_up hR q) hf hs (hc.chg q (fun _ _ e => e)))
 obtain ⟨la, cap, h1, h2, hcap, hcm⟩ := hl.open
 have H1 := Lib.hid h1
 have H2 := Lib.hid h2
 obtain ⟨ra, rcap, rfl, hl0, _⟩ := hR
 obtain ⟨ca, ccap, rfl, hl1, _⟩ := hc
 unfold maxLen at hl0 hl1 hcm
 obtain ⟨q1, q2⟩ : setB c = true ∧ ¬ (op < 0 ∨ 8 ≤ op) ∧ badE true b R.length = 0 := by
  unfold askBad at h0
  cases hb : setB c with
  | false => rw [hb] at h0; simp at h0
  | true =>
   rw [hb, if_pos rfl] at h0
   by_cases h : op < 0 ∨ 8 ≤ op
   ·rw [if_pos h] at h0; simp at h0
   ·rw [if_neg h] at h0; exact ⟨rfl, h, h0⟩
 obtain ⟨_, q3, q4, q5⟩ := ba_len q2.2
 have q6 := q2.1
 rw [q1] at M1
 have g1 : decide (op < 0) = false := decide_eq_false (by omega)
 have g2 : decide (8 ≤ op) = false := decide_eq_false (by omega)
 have g3 : decide (1 ≤ b) = true := decide_eq_true (by omega)
 have g4 : decide (b ≤ 5000) = true := decide_eq_true (by omega)
 have g5 : decide (400 < (R.length : Int)) = false := decide_eq_false (by omega)
 clear hl h1 h2 hf h0 q1 q2 q6
 have ST := Lib.hid (show askGo R b c op 0 0 L = askGo R b c op 0 0 (L.drop 0) from rfl)
 generalize askGo R b c op 0 0 L = res at *
 go_enter Tryz.func91, Tryz.ntmps91
 go_wp2_with fail
 (with_reducible refine (M1.out).mono ?_)
 rintro e w2 ⟨rfl, d2⟩
 have K2 := Lib.hid (show Chg (fun _ => False) w w2 from d2.chg)
 have c0 : w2.cell? ⟨b0, 0, none⟩ = some (.slice la L.length cap) := cell_of (K2.out.obj (fun e => e) H1.out) rfl
 clear d2 M1
 have BO := Lib.hid (bounded_yes w2 b q3 q4)
 go_wp2_with fail
 (with_reducible refine (BO.out).mono ?_)
 rintro e w3 ⟨rfl, rfl⟩
 clear BO
 go_wp2
 go_loopw [13, 41] (fun av iv wr => ∃ (k : Nat) (a : Int), k ≤ L.length ∧ iv = .int .i64 k ∧ av = .int .i64 a ∧ Hid (res = askGo R b c op k a (L.drop k) ∧ Chg (fun _ => False) w wr)) (fun _ iv _ => L.length - (intOf iv).toNat)
 case atStart => exact ⟨0, 0, by omega, rfl, rfl, Lib.hid ⟨ST.out, K2.out⟩⟩
 case round =>
  obtain ⟨k, a, hk, rfl, rfl, HI⟩ := hrel
  by_cases hlt : k < L.length
  ·obtain ⟨x, hx⟩ : ∃ x, L[k]? = some x := ⟨_, List.getElem?_eq_getElem hlt⟩
   obtain ⟨g, o, sa, sc, rfl, _, d0, d1, hs⟩ := (H2.out.chg HI.out.2 (fun _ _ e => e)).get hx
   have ka := chg_alloc (fun _ => False) wr (.cells #[.int .i64 x.1, .slice sa x.2.length sc] 56)
   have KW := Lib.hid (HI.out.2.trans ka)
   have F := Lib.hid (FI.out _ KW.out _ x.2 (hs.at_.chg ka (fun _ _ e => e)))
   have STP := Lib.hid (show res = if x.1 = op then (if fitV R b c x.2 = 1 then (1, (k : Int)) else askGo R b c op (k + 1) (if fitV R b c x.2 = 2 then 2 else a) (L.drop (k + 1))) else askGo R b c op (k + 1) a (L.drop (k + 1)) from by rw [HI.out.1]; exact askGo_step hx)
   clear HI hx hs ka
   generalize fitV R b c x.2 = f at *
   obtain ⟨oq, l⟩ := x
   simp only at d0 d1 F STP KW
   by_cases hop : oq = op
   ·have e1 : (oq != op) = false := by rw [bne_eq_false_iff_eq]; exact hop
    have e2 : (oq == op) = true := beq_iff_eq.2 hop
    by_cases hf1 : f = 1
    ·have R1 := Lib.hid (show res = (1, (k : Int)) from by rw [STP.out, if_pos hop, if_pos hf1])
     subst hf1
     clear STP hop
     go_wp2_with fail
     (with_reducible refine (F.out).mono ?_)
     rintro e w4 ⟨rfl, k4⟩
     have K4 := Lib.hid (KW.out.trans k4)
     clear k4 F
     go_wp2
     refine bodyPost_ret (v := .tuple #[.int .i64 1, .int .i64 k, .int .i64 0]) (by simp [results, Tryz.results91, go_sem]) rfl ?_
     exact ⟨by rw [R1.out], K4.out⟩
    ·have m1 : (f == 1) = false := beq_eq_false_iff_ne.2 hf1
     by_cases hf2 : f = 2
     ·have R2 := Lib.hid (show res = askGo R b c op (k + 1) 2 (L.drop (k + 1)) from by rw [STP.out, if_pos hop, if_neg hf1, if_pos hf2])
      subst hf2
      clear STP hop hf1
      go_wp2_with fail
      (with_reducible refine (F.out).mono ?_)
      rintro e w4 ⟨rfl, k4⟩
      have K4 := Lib.hid (KW.out.trans k4)
      clear k4 F
      go_wp2
      go_roundw
      case rel => exact ⟨k + 1, 2, by omega, by go_num, rfl, Lib.hid ⟨R2.out, K4.out⟩⟩
      case measure => simp [intOf]; omega
     ·have m2 : (f == 2) = false := beq_eq_false_iff_ne.2 hf2
      have R2 := Lib.hid (show res = askGo R b c op (k + 1) a (L.drop (k + 1)) from by rw [STP.out, if_pos hop, if_neg hf1, if_neg hf2])
      clear STP hop hf1 hf2
      go_wp2_with fail
      (with_reducible refine (F.out).mono ?_)
      rintro e w4 ⟨rfl, k4⟩
      have K4 := Lib.hid (KW.out.trans k4)
      clear k4 F
      go_wp2
      go_roundw
      case rel => exact ⟨k + 1, a, by omega, by go_num, rfl, Lib.hid ⟨R2.out, K4.out⟩⟩
      case measure => simp [intOf]; omega
   ·have e1 : (oq != op) = true := by rw [bne_iff_ne]; exact hop
    have e2 : (oq == op) = false := beq_eq_false_iff_ne.2 hop
    have R2 := Lib.hid (show res = askGo R b c op (k + 1) a (L.drop (k + 1)) from by rw [STP.out, if_neg hop])
    clear STP hop F
    go_wp2
    go_roundw
    case rel => exact ⟨k + 1, a, by omega, by go_num, rfl, Lib.hid ⟨R2.out, KW.out⟩⟩
    case measure => simp [intOf]; omega
  ·obtain rfl : k = L.length := by omega
   have R := Lib.hid (show res = (a, -1) from by rw [HI.out.1, List.drop_length]; rfl)
   go_wp2
   refine bodyPost_ret (v := .tuple #[.int .i64 a, .int .i64 (-1), .int .i64 0]) (by simp [results, Tryz.results91, go_sem]) rfl ?_
   exact ⟨by rw [R.out], HI.out.2⟩
end Go.Proofs.YthdfplafihmejaaGreat
