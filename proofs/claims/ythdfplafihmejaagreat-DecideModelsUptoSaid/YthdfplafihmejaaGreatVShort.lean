/-
  Package decide: list, operation, short.
  Package decide: short; the look for a word that is reached.
-/
import Derived.Test.YthdfplafihmejaaGreatVPlain
import Derived.Test.YthdfplafihmejaaGreatAAsk
import Derived.Test.YthdfplafihmejaaGreatCCheck
import Derived.Test.YthdfplafihmejaaGreatURun
import Derived.Test.YthdfplafihmejaaGreatCSet
import Derived.Test.YthdfplafihmejaaGreatUBack
namespace Go.Proofs.YthdfplafihmejaaGreat
open Go.RowKit Go.Maps

def ListRes (w : World) (C : List BCert) (L : List BEnt) (c : List ByteArray) (e : Ending) (w' : World) : Prop := Chg (fun _ => False) w w' ∧
 (listB C L c = true → ∃ b0, e = .returned (.tuple #[.pointer (some ⟨b0, 0, none⟩), .int .i64 0]) ∧ w.heap.size ≤ b0 ∧ ListAt w' b0 180 (fun k => w.heap.size ≤ k ∧ k ≠ b0) L 0) ∧
 (listB C L c = false → e = .returned (.tuple #[.pointer none, .int .i64 2]))
theorem listRes_bad {w w' : World} {C : List BCert} {L : List BEnt} {c : List ByteArray} (hk : Chg (fun _ => False) w w') (h : listB C L c = false) : ListRes w C L c (.returned (.tuple #[.pointer none, .int .i64 2])) w' :=
 ⟨hk, fun e => (by rw [h] at e; cases e), fun _ => rfl⟩
theorem all_snoc {C : List BCert} {k : Nat} {x : BCert} (h : C[k]? = some x) : (C.take (k + 1)).all certB = ((C.take k).all certB && certB x) := by
 rw [List.take_add_one, h, List.all_append]; simp
theorem all_bad {C : List BCert} {k : Nat} {x : BCert} (h : C[k]? = some x) (hx : certB x = false) : C.all certB = false := by
 rw [Bool.eq_false_iff]
 intro q
 have := List.all_eq_true.1 q x (List.mem_of_getElem? h)
 rw [hx] at this; cases this
set_option maxHeartbeats 4000000 in
set_option maxRecDepth 100000 in
theorem list_any (w : World) (v lv cv : Value) (P : List (BCert × Value)) (L : List BEnt) (c : List ByteArray) (G G2 G3 : Nat → Prop) (hv : CertsAt w v G P) (hl : EntsAt w lv G2 L) (hc : WordsAt w cv G3 c) (hL : L.length ≤ 1000) :
  Calls Tryz.prog 40 #[v, lv, cv] w (ListRes w (certsOf P) L c) := by
 have M1 := Lib.hid (setMay_any w cv G3 c hc)
 have NW := Lib.hid (fun w1 (q : Chg (fun _ => False) w w1) => lnew_any w1 lv L G2 (hl.chg q (fun _ _ e => e)) hL)
 have HV := Lib.hid hv
 obtain ⟨la, cap, rfl, hpl, _⟩ := hv
 obtain ⟨_, _, rfl, _, _⟩ := hl.shape
 obtain ⟨_, _, rfl, _, _⟩ := hc
 have CG := Lib.hid (fun k p (h : P[k]? = some p) => certsOf_get h)
 have CL := Lib.hid (certsOf_length P)
 unfold maxLen at hpl
 have LB := Lib.hid (show listB (certsOf P) L c = (setB c && (decide (newE [] L = 0) && (certsOf P).all certB)) from rfl)
 have LBAD := Lib.hid (fun w1 (q : Chg (fun _ => False) w w1) => @listRes_bad w w1 (certsOf P) L c q)
 have LRES := Lib.hid (show ∀ e w1, ListRes w (certsOf P) L c e w1 ↔ _ from fun _ _ => Iff.rfl)
 generalize hcs : certsOf P = C at *
 clear hcs hl
 go_enter Tryz.func40, Tryz.ntmps40
 go_wp2_with fail
 (with_reducible refine (M1.out).mono ?_)
 rintro e w2 ⟨rfl, d2⟩
 have K2 := Lib.hid (show Chg (fun _ => False) w w2 from d2.chg)
 have N2 := Lib.hid (NW.out w2 K2.out)
 clear d2 M1 NW
 cases hsb : setB c with
 | false =>
  have B := Lib.hid (LBAD.out w2 K2.out (by rw [LB.out, hsb]; rfl))
  clear hsb
  go_wp2
  go_ret2
  exact B.out
 | true =>
 have SB := Lib.hid hsb
 clear hsb
 go_wp2_with fail
 (with_reducible refine (N2.out).mono ?_)
 rintro e w3 ⟨h0, h1, k3⟩
 have K3 := Lib.hid (K2.out.trans k3)
 have hsz := K2.out.size
 by_cases hn : newE [] L = 0
 rotate_left
 · obtain rfl := h1 hn
   have B := Lib.hid (LBAD.out w3 K3.out (by rw [LB.out, SB.out, decide_eq_false hn]; rfl))
   have g1 : (newE [] L != 0) = true := by rw [bne_iff_ne]; exact hn
   generalize newE [] L = ne at *
   clear h0 h1 k3 hn N2
   go_wp2
   go_ret2
   exact B.out
 obtain ⟨b0, rfl, hb0, hla⟩ := h0 hn
 have HN := Lib.hid hn
 have HB := Lib.hid (Nat.le_trans hsz hb0)
 have HLA := Lib.hid (show ListAt w3 b0 180 (fun k => w.heap.size ≤ k ∧ k ≠ b0) L 0 from hla.up (fun k hk => ⟨by have := hk.1; omega, hk.2.2⟩) (fun e => e.2 rfl))
 clear h0 h1 k3 hn N2 hb0 hla K2
 go_wp2
 go_loopw [24] (fun iv wr => ∃ k : Nat, k ≤ P.length ∧ iv = .int .i64 k ∧ Hid ((C.take k).all certB = true ∧ Chg (fun _ => False) w3 wr)) (fun iv _ => P.length - (intOf iv).toNat)
 case atStart => exact ⟨0, by omega, rfl, Lib.hid ⟨by simp, Chg.refl _ _⟩⟩
 case round =>
  obtain ⟨k, hk, rfl, HI⟩ := hrel
  obtain ⟨hall, hkc⟩ := HI.out
  have ALL := Lib.hid hall
  have KC := Lib.hid hkc
  clear HI hall hkc
  by_cases hlt : k < P.length
  rotate_left
  · obtain rfl : k = P.length := by omega
    have R := Lib.hid (show ListRes w C L c (.returned (.tuple #[.pointer (some ⟨b0, 0, none⟩), .int .i64 0])) wr from by
     have ha := ALL.out
     rw [List.take_of_length_le (by rw [CL.out]; exact Nat.le_refl _)] at ha
     have hb : listB C L c = true := by rw [LB.out, SB.out, decide_eq_true HN.out, ha]; rfl
     exact ⟨K3.out.trans KC.out, fun _ => ⟨b0, rfl, HB.out, HLA.out.chg KC.out (fun e => e) (fun _ _ e => e)⟩, fun e => by rw [hb] at e; cases e⟩)
    go_wp2
    go_ret2
    exact R.out
  obtain ⟨⟨x, sv⟩, hp⟩ : ∃ p, P[k]? = some p := ⟨_, List.getElem?_eq_getElem hlt⟩
  obtain ⟨_, _, e1, _, hcl⟩ := HV.out.chg (K3.out.trans KC.out) (fun _ _ e => e)
  cases e1
  obtain ⟨g, o, sa, sc, rfl, hgg, hsv, c0, c1, c2, c3, c4, c5, c6, hca⟩ := hcl k _ hp
  simp only at hsv
  subst hsv
  have HP := Lib.hid (CG.out _ _ hp)
  clear hcl hp hgg
  simp only at c0 c1 c2 c3 c4 c5 c6 hca HP
  have ka := chg_alloc (fun _ => False) wr (.cells #[.int .i64 x.kind, .int .u16 (x.sg : Int), .string x.sp, .slice sa x.fr.length sc, .int .i64 x.f, .int .i64 x.t, .int .i64 x.n] 64)
  have CH := check_any (wr.alloc (.cells #[.int .i64 x.kind, .int .u16 (x.sg : Int), .string x.sp, .slice sa x.fr.length sc, .int .i64 x.f, .int .i64 x.t, .int .i64 x.n] 64)) x sa sc G (hca.chg ka (fun _ _ e => e))
  have NX := Lib.hid (fun (q : certB x = true) => show (C.take (k + 1)).all certB = true from by rw [all_snoc HP.out, ALL.out, q]; rfl)
  have BD := Lib.hid (fun (q : certB x = false) => show listB C L c = false from by rw [LB.out, all_bad HP.out q, Bool.and_false, Bool.and_false])
  unfold CheckRes at CH
  generalize certB x = cb at *
  obtain ⟨kind, sg, sp, fr, f, t, num⟩ := x
  unfold certV at CH
  simp only at c0 c1 c2 c3 c4 c5 c6 CH ka
  have CH := Lib.hid CH
  have KA := Lib.hid (KC.out.trans ka)
  clear ka hca HP KC
  go_wp2_with fail
  generalize wr.alloc (.cells #[.int .i64 kind, .int .u16 (sg : Int), .string sp, .slice sa fr.length sc, .int .i64 f, .int .i64 t, .int .i64 num] 64) = w4 at *
  (with_reducible refine (CH.out).mono ?_)
  rintro e w5 ⟨⟨z, rfl, hz⟩, k5⟩
  have K5 := Lib.hid (KA.out.trans k5)
  clear CH k5 KA c0 c1 c2 c3 c4 c5 c6
  cases cb with
  | false =>
   have g1 : (z != 0) = true := by rw [bne_iff_ne]; intro e; exact absurd (hz.1 e) (by decide)
   have RV := Lib.hid (LBAD.out w5 (K3.out.trans K5.out) (BD.out rfl))
   clear hz
   go_wp2
   go_ret2
   exact RV.out
  | true =>
   have g1 : (z != 0) = false := by rw [hz.2 rfl]; rfl
   have NN := Lib.hid (NX.out rfl)
   clear hz NX
   go_wp2
   go_roundw
   case rel => exact ⟨k + 1, by omega, by go_num, Lib.hid ⟨NN.out, K5.out⟩⟩
   case measure => simp [intOf]; omega
def opB (op : Int) : Bool := decide (0 ≤ op) && decide (op < 8)
theorem op_any (w : World) (op : Int) : Calls Tryz.prog 41 #[.int .i64 op] w fun e w' => e = .returned (.bool (opB op)) ∧ w = w' := by
 unfold opB
 by_cases h1 : 0 ≤ op
 · have g1 : decide (0 ≤ op) = true := decide_eq_true h1
   rw [g1, Bool.true_and]
   go_enter Tryz.func41, Tryz.ntmps41
   go_wp2
   go_ret
   exact ⟨rfl, rfl⟩
 · have g1 : decide (0 ≤ op) = false := decide_eq_false h1
   rw [g1, Bool.false_and]
   go_enter Tryz.func41, Tryz.ntmps41
   go_wp2
   go_ret
   exact ⟨rfl, rfl⟩
end Go.Proofs.YthdfplafihmejaaGreat

namespace Go.Proofs.YthdfplafihmejaaGreat
open Go.RowKit Go.Maps

theorem find_at {α : Type} {p : α → Bool} : ∀ {l : List α} {k : Nat} {x : α}, l[k]? = some x → p x = true → (∀ (j : Nat) y, j < k → l[j]? = some y → p y = false) → l.findIdx p = k
 | [], k, x, h, _, _ => by simp at h
 | a :: l, 0, x, h, hp, _ => by simp at h; subst h; rw [List.findIdx_cons, hp]; rfl
 | a :: l, k + 1, x, h, hp, hn => by
  rw [List.findIdx_cons, hn 0 a (by omega) rfl, find_at (k := k) (by simpa using h) hp (fun j y hj hy => hn (j + 1) y (by omega) (by simpa using hy))]; rfl
theorem find_no {α : Type} {p : α → Bool} {l : List α} (h : ∀ (j : Nat) y, j < l.length → l[j]? = some y → p y = false) : l.findIdx p = l.length := by
 rw [List.findIdx_eq_length]
 intro x hx
 obtain ⟨j, hj⟩ := List.mem_iff_getElem?.1 hx
 exact h j x (List.getElem?_eq_some_iff.1 hj).1 hj
theorem before_succ {α : Type} {p : α → Bool} {l : List α} {k : Nat} {x : α} (hx : l[k]? = some x) (hp : p x = false) (h : ∀ (j : Nat) y, j < k → l[j]? = some y → p y = false) : ∀ (j : Nat) y, j < k + 1 → l[j]? = some y → p y = false := fun j y hj hy => by
 rcases Nat.lt_or_ge j k with q | q
 · exact h j y q hy
 · obtain rfl : j = k := by omega
   rw [hx] at hy; cases hy; exact hp
/-! the short way -/
theorem short1_any (w : World) (x : BEnt) (sa : Option Addr) (sc : Nat) (op : Int) (cv : Value) (c : List ByteArray) (p q : Nat) (G G' : Nat → Prop) (hx : WordsAt w (.slice sa x.2.length sc) G x.2) (hc : WordsAt w cv G' c) (hcl : c.length ≤ 1000) (hp : w.heap[p]? = some (.cells #[.int .i64 op] 3 (0, 0))) (hq : w.heap[q]? = some (.cells #[cv] 26 (0, 0))) :
  Calls Tryz.prog 115 #[.agg #[.int .i64 x.1, .slice sa x.2.length sc], .pointer (some ⟨p, 0, none⟩), .pointer (some ⟨q, 0, none⟩)] w fun e w' => e = .returned (.bool (shortP op c x)) ∧ Chg (fun _ => False) w w' := by
 have ka := chg_alloc (fun _ => False) w (.cells #[.int .i64 x.1, .slice sa x.2.length sc] 56)
 have WI := Lib.hid (within_any (w.alloc (.cells #[.int .i64 x.1, .slice sa x.2.length sc] 56)) _ cv x.2 c G G' (hx.chg ka (fun _ _ e => e)) (hc.chg ka (fun _ _ e => e)) hcl)
 have c0 := cell_of (o := 0) (ka.obj (fun e => e) hp) rfl
 have c1 := cell_of (o := 0) (ka.obj (fun e => e) hq) rfl
 have KA := Lib.hid ka
 obtain ⟨ca, cc, rfl, _, _⟩ := hc
 have SP := Lib.hid (show shortP op c x = (decide (x.1 = op) && x.2.all (hasB c)) from rfl)
 generalize shortP op c x = r at *
 obtain ⟨oq, l⟩ := x
 simp only at WI c0 c1 SP
 generalize l.all (hasB c) = al at *
 clear hx hp hq ka
 by_cases hop : oq = op
 · have RV := Lib.hid (show r = al from by rw [SP.out, decide_eq_true hop]; rfl)
   subst hop
   have g1 : (oq == oq) = true := by simp
   clear SP
   go_enter Tryz.func115, Tryz.ntmps115
   go_wp2_with fail
   (with_reducible refine (WI.out).mono ?_)
   rintro e w2 ⟨rfl, k2⟩
   go_wp2
   go_ret
   exact ⟨by rw [RV.out]; rfl, KA.out.trans k2⟩
 · have RV := Lib.hid (show r = false from by rw [SP.out, decide_eq_false hop]; rfl)
   have g1 : (oq == op) = false := by rw [beq_eq_false_iff_ne]; exact hop
   clear SP hop
   go_enter Tryz.func115, Tryz.ntmps115
   go_wp2
   go_ret
   exact ⟨by rw [RV.out]; rfl, KA.out⟩
def shortV (op : Int) (c : List ByteArray) (L : List BEnt) : Int := if shortI op c L < L.length then (shortI op c L : Int) else -1
set_option maxRecDepth 100000 in
theorem indexV_any (w : World) (lv : Value) (L : List BEnt) (op : Int) (cv : Value) (c : List ByteArray) (p q : Nat) (G G' : Nat → Prop) (hl : EntsAt w lv G L) (hc : WordsAt w cv G' c) (hcl : c.length ≤ 1000) (hp : w.heap[p]? = some (.cells #[.int .i64 op] 3 (0, 0))) (hq : w.heap[q]? = some (.cells #[cv] 26 (0, 0))) :
  Calls Tryz.prog 114 #[lv, .func (.func 115) #[] #[.pointer (some ⟨p, 0, none⟩), .pointer (some ⟨q, 0, none⟩)]] w fun e w' => e = .returned (.int .i64 (shortV op c L)) ∧ Chg (fun _ => False) w w' := by
 obtain ⟨la, cap, rfl, hl0, hl1⟩ := hl.shape
 have HL := Lib.hid hl
 have FI := Lib.hid (fun w1 (k : Chg (fun _ => False) w w1) x sa sc (hs : WordsAt w1 (.slice sa x.2.length sc) G x.2) => short1_any w1 x sa sc op cv c p q G G' hs (hc.chg k (fun _ _ e => e)) hcl (k.obj (fun e => e) hp) (k.obj (fun e => e) hq))
 unfold maxLen at hl1
 clear hl hp hq hc
 go_enter Tryz.func114, Tryz.ntmps114
 go_wp2
 go_loopw [8] (fun iv wr => ∃ k : Nat, k ≤ L.length ∧ iv = .int .i64 k ∧ Hid ((∀ (j : Nat) y, j < k → L[j]? = some y → shortP op c y = false) ∧ Chg (fun _ => False) w wr)) (fun iv _ => L.length - (intOf iv).toNat)
 case atStart => exact ⟨0, by omega, rfl, Lib.hid ⟨fun j y hj => by omega, Chg.refl _ _⟩⟩
 case round =>
  obtain ⟨k, hk, rfl, HI⟩ := hrel
  by_cases hlt : k < L.length
  · obtain ⟨y, hy⟩ : ∃ y, L[k]? = some y := ⟨_, List.getElem?_eq_getElem hlt⟩
    obtain ⟨g, o, sa, sc, rfl, _, c0, c1, hs⟩ := (HL.out.chg HI.out.2 (fun _ _ e => e)).get hy
    have F := Lib.hid (FI.out wr HI.out.2 y sa sc hs.at_)
    have KC := Lib.hid HI.out.2
    have YES := Lib.hid (fun q => find_at hy q HI.out.1)
    have NO := Lib.hid (fun q => before_succ hy q HI.out.1)
    clear HI hy hs FI
    generalize shortP op c y = r at *
    obtain ⟨oq, l⟩ := y
    simp only at F c0 c1
    cases r with
    | true =>
     have R := Lib.hid (show shortV op c L = (k : Int) from by
      have := YES.out rfl
      unfold shortV shortI
      rw [this, if_pos hlt])
     clear YES NO
     go_wp2_with fail
     (with_reducible refine (F.out).mono ?_)
     rintro e w2 ⟨rfl, k2⟩
     go_wp2
     go_ret
     exact ⟨by rw [R.out]; rfl, KC.out.trans k2⟩
    | false =>
     have N := Lib.hid (NO.out rfl)
     clear YES NO
     go_wp2_with fail
     (with_reducible refine (F.out).mono ?_)
     rintro e w2 ⟨rfl, k2⟩
     have K2 := Lib.hid (KC.out.trans k2)
     clear k2
     go_wp2
     go_roundw
     case rel => exact ⟨k + 1, by omega, by go_num, Lib.hid ⟨N.out, K2.out⟩⟩
     case measure => simp [intOf]; omega
  · obtain rfl : k = L.length := by omega
    have R := Lib.hid (show shortV op c L = -1 from by
     have := find_no HI.out.1
     unfold shortV shortI
     rw [this, if_neg (by omega)])
    go_wp2
    go_ret
    exact ⟨by rw [R.out]; rfl, HI.out.2⟩
theorem short_any (w : World) (lv : Value) (L : List BEnt) (op : Int) (cv : Value) (c : List ByteArray) (G G' : Nat → Prop) (hl : EntsAt w lv G L) (hc : WordsAt w cv G' c) (hcl : c.length ≤ 1000) :
  Calls Tryz.prog 89 #[lv, .int .i64 op, cv] w fun e w' => e = .returned (.tuple #[.int .i64 (shortV op c L), .bool (decide (shortI op c L < L.length))]) ∧ Chg (fun _ => False) w w' := by
 obtain ⟨la, cap, rfl, hl0, hl1⟩ := hl.shape
 obtain ⟨ca, cc, rfl, hc0, hc1⟩ := id hc
 have k1 := chg_alloc (fun _ => False) w (.cells #[.int .i64 op] 3)
 have k2 := chg_alloc (fun _ => False) (w.alloc (.cells #[.int .i64 op] 3)) (.cells #[.slice ca c.length cc] 26)
 have K := Lib.hid (k1.trans k2)
 have o1 := obj_alloc_new (w.alloc (.cells #[.int .i64 op] 3)) (.cells #[.slice ca c.length cc] 26)
 have o0 := k2.obj (fun e => e) (obj_alloc_new w (.cells #[.int .i64 op] 3))
 have IX := indexV_any _ _ L op _ c _ _ G G' (hl.chg (k1.trans k2) (fun _ _ e => e)) (hc.chg (k1.trans k2) (fun _ _ e => e)) hcl o0 o1
 rw [World.size_alloc] at IX
 have IX := Lib.hid IX
 unfold maxLen at hl1
 by_cases hs : shortI op c L < L.length
 · have h0 : 0 ≤ shortV op c L := by unfold shortV; rw [if_pos hs]; omega
   have g1 : decide (0 ≤ shortV op c L) = true := decide_eq_true h0
   have R := Lib.hid (decide_eq_true hs)
   clear hs hl hc k1 k2 o1 o0 hc0 hc1
   generalize shortV op c L = sv at *
   go_enter Tryz.func89, Tryz.ntmps89
   go_wp2_with fail
   (with_reducible refine (IX.out).mono ?_)
   rintro e w2 ⟨rfl, k2⟩
   go_wp2
   go_ret2
   exact ⟨by rw [R.out]; rfl, K.out.trans k2⟩
 · have h0 : shortV op c L = -1 := by unfold shortV; rw [if_neg hs]
   have R := Lib.hid (decide_eq_false hs)
   rw [h0] at IX ⊢
   clear hs hl hc k1 k2 o1 o0 hc0 hc1 h0
   go_enter Tryz.func89, Tryz.ntmps89
   go_wp2_with fail
   (with_reducible refine (IX.out).mono ?_)
   rintro e w2 ⟨rfl, k2⟩
   go_wp2
   go_ret2
   exact ⟨by rw [R.out]; rfl, K.out.trans k2⟩
/-! the look for a word that is reached -/
theorem add1_any (w : World) (av : Value) (l : List ByteArray) (v : ByteArray) (p : Nat) (G : Nat → Prop) (hl : WordsAt w av G l) (hp : w.heap[p]? = some (.cells #[av] 25 (0, 0))) :
  Calls Tryz.prog 94 #[.string v, .pointer (some ⟨p, 0, none⟩)] w fun e w' => e = .returned (.bool (decide (v ∈ l))) ∧ w = w' := by
 have CO := Lib.hid (containsL_any w av G l v hl)
 have c0 := cell_of (o := 0) hp rfl
 obtain ⟨_, _, rfl, _, _⟩ := hl
 clear hp
 go_enter Tryz.func94, Tryz.ntmps94
 go_wp2_with fail
 (with_reducible refine (CO.out).mono ?_)
 rintro e w2 ⟨rfl, rfl⟩
 go_wp2
 go_ret
 exact ⟨rfl, rfl⟩
def reachI (c l : List ByteArray) : Nat := c.findIdx fun v => decide (v ∈ l)
set_option maxRecDepth 100000 in
theorem indexC_any (w : World) (cv av : Value) (c l : List ByteArray) (p : Nat) (G G' : Nat → Prop) (hc : WordsAt w cv G c) (hl : WordsAt w av G' l) (hp : w.heap[p]? = some (.cells #[av] 25 (0, 0))) (hr : reachI c l < c.length) :
  Calls Tryz.prog 93 #[cv, .func (.func 94) #[] #[.pointer (some ⟨p, 0, none⟩)]] w fun e w' => e = .returned (.int .i64 (reachI c l : Int)) ∧ w = w' := by
 have FI := Lib.hid (fun v => add1_any w av l v p G' hl hp)
 obtain ⟨ca, cc, rfl, hc0, hcc⟩ := hc
 have HCC := Lib.hid hcc
 have HR := Lib.hid hr
 unfold maxLen at hc0
 clear hcc hp hl hr
 go_enter Tryz.func93, Tryz.ntmps93
 go_wp2
 go_loop [8] (fun iv => ∃ k : Nat, k ≤ c.length ∧ iv = .int .i64 k ∧ Hid (∀ (j : Nat) y, j < k → c[j]? = some y → decide (y ∈ l) = false)) (fun iv => c.length - (intOf iv).toNat)
 case atStart => exact ⟨0, by omega, rfl, Lib.hid (fun j y hj => by omega)⟩
 case round =>
  obtain ⟨k, hk, rfl, HI⟩ := hrel
  by_cases hlt : k < c.length
  · obtain ⟨y, hy⟩ : ∃ y, c[k]? = some y := ⟨_, List.getElem?_eq_getElem hlt⟩
    obtain ⟨lb, lo, rfl, _, c0, _⟩ := HCC.out k y hy
    have F := Lib.hid (FI.out y)
    have YES := Lib.hid (fun q => find_at (p := fun v => decide (v ∈ l)) hy q HI.out)
    have NO := Lib.hid (fun q => before_succ (p := fun v => decide (v ∈ l)) hy q HI.out)
    clear HI hy FI
    generalize decide (y ∈ l) = r at *
    cases r with
    | true =>
     have R := Lib.hid (show reachI c l = k from YES.out rfl)
     clear YES NO
     go_wp2_with fail
     (with_reducible refine (F.out).mono ?_)
     rintro e w2 ⟨rfl, rfl⟩
     go_wp2
     go_ret
     exact ⟨by rw [R.out]; rfl, rfl⟩
    | false =>
     have N := Lib.hid (NO.out rfl)
     clear YES NO
     go_wp2_with fail
     (with_reducible refine (F.out).mono ?_)
     rintro e w2 ⟨rfl, rfl⟩
     go_wp2
     go_round
     case rel => exact ⟨k + 1, by omega, by go_num, N⟩
     case measure => simp [intOf]; omega
  · obtain rfl : k = c.length := by omega
    exfalso
    have h1 := find_no (p := fun v => decide (v ∈ l)) HI.out
    have h2 := HR.out
    unfold reachI at h2
    omega
end Go.Proofs.YthdfplafihmejaaGreat
