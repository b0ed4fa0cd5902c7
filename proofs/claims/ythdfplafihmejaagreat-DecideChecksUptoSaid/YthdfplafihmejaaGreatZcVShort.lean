/-
  Decide, in plain Lean: what is decided, and why. Package decide: list, operation, short. Package decide: short; the look for a word that is reached.
-/
import Derived.Test.YthdfplafihmejaaGreatZcQAt
import Derived.Test.YthdfplafihmejaaGreatZcQMake
import Derived.Test.YthdfplafihmejaaGreatZcAEnt
import Derived.Test.YthdfplafihmejaaGreatZcURun
import Derived.Test.YthdfplafihmejaaGreatZcCSort
import Derived.Test.YthdfplafihmejaaGreatZcUBack
namespace Go.Proofs.YthdfplafihmejaaGreat
open Go.RowKit Go.Maps
structure zeW where
 ans : Int
 entry : Int
 short : Bool
 rules : List zA
def zfv : zeW := ⟨0, 0, false, []⟩
def Yj (C : List zn) (L : List zW) (c : List ByteArray) : Bool := XR c && (decide (zc1 [] L = 0) && C.all ZG)
def zb9 (op : Int) (c : List ByteArray) (x : zW) : Bool := decide (x.1 = op) && x.2.all (zaM c)
def Yw (op : Int) (c : List ByteArray) (L : List zW) : Nat := L.findIdx (zb9 op c)
def zjh (op b : Int) : Bool := (decide (0 <= op) && decide (op < 8)) && (decide (1 <= b) && decide (b <= 5000))
def zmm (R : List zA) (C : List zn) (L : List zW) (op : Int) (c : List ByteArray) (b : Int) : zeW :=
 match Zj R C b with
 | .ok s => ⟨(YS s.rules b c op 0 0 L).1, (YS s.rules b c op 0 0 L).2, false, s.rules⟩
 | .error _ => ⟨2, 0, false, []⟩
def xH (R : List zA) (C : List zn) (L : List zW) (op : Int) (c : List ByteArray) (b : Int) : Int × zeW :=
 if Yj C L c = true then (if zjh op b = true then (if 400 < R.length + yd C then (3, zfv)
   else if Yw op c L < L.length then (0, ⟨1, (Yw op c L : Int), true, []⟩) else (0, zmm R C L op c b)) else (1, zfv)) else (2, zfv)
def zaY (d : zeW) (b : Int) (x : ByteArray) : List ByteArray := if d.short = true then [x] else zbL d.rules x b
def toW (d : zeW) (b : Int) (c : List ByteArray) (x : ByteArray) : Nat := c.findIdx fun v => decide (v ∈ zaY d b x)
noncomputable def zjW (R : List zA) (C : List zn) (d : zeW) (b : Int) (c : List ByteArray) (x : ByteArray) : zS := if d.short = true then ⟨[], []⟩ else (XF R C x (c.getD (toW d b c x) ⟨#[]⟩) b).2
structure zdq where
 entry : Int
 ways : List Int
 proofs : List zS
def zlE : zdq := ⟨0, [], []⟩
def ze4 (L : List zW) (i : Int) : List ByteArray := match L[i.toNat]? with
 | some x => x.2
 | none => []
noncomputable def zmJ (R : List zA) (C : List zn) (L : List zW) (c : List ByteArray) (b : Int) (d : zeW) : zdq :=
 ⟨d.entry, (ze4 L d.entry).map (fun x => (toW d b c x : Int)), (ze4 L d.entry).map (zjW R C d b c)⟩
noncomputable def zcl (R : List zA) (C : List zn) (L : List zW) (op : Int) (c : List ByteArray) (b : Int) : Int × zdq × Int :=
 if (xH R C L op c b).1 = 0 ∧ (xH R C L op c b).2.ans = 1 then (1, zmJ R C L c b (xH R C L op c b).2, 0) else ((xH R C L op c b).2.ans, zlE, (xH R C L op c b).1)
theorem zf5 {R : List zA} {C : List zn} {b e : Int} (h : Zj R C b = .error e) (h0 : zdx R.length C b = 0) : e = 12 := by
 have hC : C.all ZG = true := by
  unfold zdx at h0;split at h0
  · assumption
  · cases h0
 have hb : ¬ (b < 1 ∨ 5000 < b) ∧ R.length + yd C <= 400 := by
  unfold zdx at h0;rw [if_pos hC] at h0;split at h0
  · cases h0
  split at h0
  · cases h0
  exact ⟨by assumption, by omega⟩
 have back : ∀ (s : ASt) (c : zn), zaP R C b s -> c ∈ C -> (xE s.rules b c).2 ≠ 0 -> (xE s.rules b c).2 = 12 := by
  intro s c hs hc hne;have hcm := zai (List.all_eq_true.1 hC c hc)
  have key : ∀ l : List ByteArray, (∀ x ∈ l, Zm x.data.toList = true) -> (zaj s.rules b (Zw c.sg) l).2 ≠ 0 -> (zaj s.rules b (Zw c.sg) l).2 = 12 := by
   intro l;induction l with
   | nil => intro _ h; exact absurd rfl h
   | cons x l ih =>
    intro hl hne;unfold zaj at hne ⊢;by_cases h1 : zQ s.rules x b = 0
    · rw [if_pos h1] at hne ⊢
      by_cases h2 : zci s.rules x (Zw c.sg) b = true
      · rw [if_pos h2] at hne ⊢
        exact ih (fun y hy => hl y (List.mem_cons_of_mem _ hy)) hne
      · rw [if_neg h2] at hne; exact absurd rfl hne
    · rw [if_neg h1]
      show zQ s.rules x b = 12
      have ha : Yx (Zm x.data.toList) b s.rules.length = 0 := by
       have := hs.small hb.2;unfold Yx;rw [if_pos (hl x List.mem_cons_self), if_neg hb.1, if_neg (by omega)]
      unfold zQ at h1 ⊢;rw [if_pos ha] at h1 ⊢;split at h1
      · rw [if_pos (by assumption)]
      · exact absurd rfl h1
  exact key c.fr (fun x hx => zbf hcm.fr hx) hne
 have step : ∀ (s : ASt) (i : Nat), zaP R C b s -> zaT C b s i = .error e -> e = 12 := by
  intro s i hs he;unfold zaT at he;split at he
  · cases he
  split at he
  · cases he
  rename_i c hc;split at he
  · split at he <;> cases he
  · rename_i hne
    cases he;exact back s c hs (List.mem_of_getElem? hc) hne
 have pass : ∀ (n : Nat) (s : ASt), zaP R C b s -> xA C b s n = .error e -> e = 12 := by
  intro n;induction n with
  | zero => intro s _ he; cases he
  | succ n ih =>
   intro s hs he;unfold xA at he;cases hp : xA C b s n with
   | error e' => rw [hp] at he; cases he; exact ih s hs hp
   | ok u => rw [hp] at he; exact step u n (hs.pass n hp).1 he
 have run : ∀ (f : Nat) (s : ASt), zaP R C b s -> zis C b f s = .error e -> e = 12 := by
  intro f;induction f with
  | zero => intro s _ he; cases he
  | succ f ih =>
   intro s hs he;unfold zis at he;cases hp : xA C b s C.length with
   | error e' => rw [hp] at he; cases he; exact pass _ s hs hp
   | ok u =>
    rw [hp] at he;simp only at he;split at he
    · cases he
    · exact ih u (hs.pass _ hp).1 he
 unfold Zj at h;rw [if_pos h0] at h;exact run _ _ (zaP.start R C b) h
theorem zl6 {R : List zA} {C : List zn} {L : List zW} {op : Int} {c : List ByteArray} {b : Int} (h : (xH R C L op c b).1 ≠ 0) : (xH R C L op c b).2 = zfv := by
 unfold xH at h ⊢;split
 · split
   · split
     · rfl
     · rename_i h1 h2 h3
       rw [if_pos h1, if_pos h2, if_neg h3] at h;split at h <;> exact absurd rfl h
   · rfl
 · rfl
theorem zfO {R : List zA} {C : List zn} {L : List zW} {op : Int} {c : List ByteArray} {b : Int} (h : (xH R C L op c b).1 = 0) : Yj C L c = true ∧ zjh op b = true ∧ R.length + yd C <= 400 ∧ (xH R C L op c b).2 = if Yw op c L < L.length then ⟨1, (Yw op c L : Int), true, []⟩ else zmm R C L op c b := by
 unfold xH at h ⊢;by_cases h1 : Yj C L c = true
 · rw [if_pos h1] at h ⊢
   by_cases h2 : zjh op b = true
   · rw [if_pos h2] at h ⊢
     by_cases h3 : 400 < R.length + yd C
     · rw [if_pos h3] at h; cases h
     · rw [if_neg h3]
       refine ⟨h1, h2, by omega, ?_⟩;split <;> rfl
   · rw [if_neg h2] at h; cases h
 · rw [if_neg h1] at h; cases h
theorem yO {C : List zn} {L : List zW} {c : List ByteArray} : Yj C L c = true ↔ XR c = true ∧ zc1 [] L = 0 ∧ C.all ZG = true := by
 unfold Yj;rw [Bool.and_eq_true, Bool.and_eq_true, decide_eq_true_iff]
theorem zh1 {op b : Int} : zjh op b = true ↔ (0 <= op ∧ op < 8) ∧ 1 <= b ∧ b <= 5000 := by
 unfold zjh;simp only [Bool.and_eq_true, decide_eq_true_iff]
theorem zmX {R : List zA} {C : List zn} {b : Int} (h1 : C.all ZG = true) (h2 : R.length + yd C <= 400) (h3 : 1 <= b ∧ b <= 5000) : zdx R.length C b = 0 := by
 unfold zdx;rw [if_pos h1, if_neg (by omega), if_neg (by omega)]
theorem zfJ {R : List zA} {b : Int} {c : List ByteArray} : ∀ {l : List ByteArray} {a : Int}, zbX R b c a l = 1 -> a = 1 ∧ ∀ x ∈ l, zQ R x b = 0 ∧ zmq R b c x = true
 | [], a, h => ⟨h, fun x hx => by cases hx⟩
 | x :: l, a, h => by
  unfold zbX at h;by_cases h1 : zQ R x b = 0
  · rw [if_neg (by simpa using h1)] at h
    obtain ⟨h2, h3⟩ := zfJ h;by_cases h4 : zmq R b c x = true
    · rw [if_pos h4] at h2
      refine ⟨h2, fun y hy => ?_⟩;rcases List.mem_cons.1 hy with rfl | hy
      · exact ⟨h1, h4⟩
      · exact h3 y hy
    · rw [if_neg h4] at h2; cases h2
  · rw [if_pos h1] at h; cases h
theorem za5 {R : List zA} {b : Int} {c : List ByteArray} {op : Int} : ∀ {L : List zW} {k : Nat} {a : Int}, a ≠ 1 -> (YS R b c op k a L).1 = 1 -> ∃ (i : Nat) (x : zW), L[i]? = some x ∧ (YS R b c op k a L).2 = ((k + i : Nat) : Int) ∧ x.1 = op ∧ zg4 R b c x.2 = 1 ∧ ∀ j, j < i -> ∀ y, L[j]? = some y -> ¬ (y.1 = op ∧ zg4 R b c y.2 = 1)
 | [], k, a, ha, h => absurd h ha
 | x :: L, k, a, ha, h => by
  unfold YS at h ⊢;by_cases h1 : x.1 = op
  · rw [if_pos h1] at h ⊢
    by_cases h2 : zg4 R b c x.2 = 1
    · rw [if_pos h2]
      exact ⟨0, x, rfl, rfl, h1, h2, fun j hj => by omega⟩
    · rw [if_neg h2] at h ⊢
      have ha2 : (if zg4 R b c x.2 = 2 then (2 : Int) else a) ≠ 1 := by
       split
       · decide
       · exact ha
      obtain ⟨i, y, q1, q2, q3, q4, q5⟩ := za5 ha2 h;refine ⟨i + 1, y, by simpa using q1, by rw [q2]; congr 1; omega, q3, q4, fun j hj z hz => ?_⟩;cases j with
      | zero => simp at hz; subst hz; exact fun e => h2 e.2
      | succ j => exact q5 j (by omega) z (by simpa using hz)
  · rw [if_neg h1] at h ⊢
    obtain ⟨i, y, q1, q2, q3, q4, q5⟩ := za5 ha h;refine ⟨i + 1, y, by simpa using q1, by rw [q2]; congr 1; omega, q3, q4, fun j hj z hz => ?_⟩;cases j with
    | zero => simp at hz; subst hz; exact fun e => h1 e.1
    | succ j => exact q5 j (by omega) z (by simpa using hz)
structure zhn (R : List zA) (C : List zn) (L : List zW) (op : Int) (c : List ByteArray) (b : Int) (d : zeW) (i : Nat) (x : zW) : Prop where
 at_ : L[i]? = some x
 entry : d.entry = i
 op_ : x.1 = op
 way : (d.short = true ∧ x.2.all (zaM c) = true) ∨ (d.short = false ∧ ∃ s, Zj R C b = .ok s ∧ d.rules = s.rules ∧ zg4 s.rules b c x.2 = 1)
theorem zkz {R : List zA} {C : List zn} {L : List zW} {op : Int} {c : List ByteArray} {b : Int} (h : (xH R C L op c b).1 = 0) (h1 : (xH R C L op c b).2.ans = 1) : ∃ i x, zhn R C L op c b (xH R C L op c b).2 i x := by
 obtain ⟨_, _, _, e⟩ := zfO h;generalize (xH R C L op c b).2 = d at h1 e ⊢;by_cases hs : Yw op c L < L.length
 · rw [if_pos hs] at e
   have := List.findIdx_getElem (xs := L) (p := zb9 op c) (w := hs);unfold zb9 at this;rw [Bool.and_eq_true, decide_eq_true_iff] at this;refine ⟨Yw op c L, _, List.getElem?_eq_getElem hs, by rw [e], this.1, .inl ⟨by rw [e], this.2⟩⟩
 · rw [if_neg hs] at e
   unfold zmm at e;split at e
   · rename_i s hacc
     rw [e] at h1;obtain ⟨i, x, q1, q2, q3, q4, _⟩ := za5 (by decide) h1;refine ⟨i, x, q1, by rw [e]; simpa using q2, q3, .inr ⟨by rw [e], s, hacc, by rw [e], q4⟩⟩
   · rw [e] at h1; cases h1
theorem zjt {R : List zA} {b : Int} {x v : ByteArray} (h : zQ R x b = 0) : v ∈ zbL R x b ↔ zci R x v b = true := by
 have := (zbP h).tell (t := v);rw [<- this, decide_eq_true_iff]
theorem zbW {R : List zA} {C : List zn} {L : List zW} {op : Int} {c : List ByteArray} {b : Int} {d : zeW} {i : Nat} {x : zW} (h : zhn R C L op c b d i x) {w : ByteArray} (hw : w ∈ x.2) : toW d b c w < c.length ∧ (d.short = false -> zQ d.rules w b = 0) ∧ ∀ v, c[toW d b c w]? = some v -> v ∈ zaY d b w := by
 have key : ∀ v ∈ c, v ∈ zaY d b w -> toW d b c w < c.length ∧ ∀ v, c[toW d b c w]? = some v -> v ∈ zaY d b w := by
  intro v hv hl;have hlt : toW d b c w < c.length := List.findIdx_lt_length_of_exists ⟨v, hv, decide_eq_true hl⟩;refine ⟨hlt, fun u hu => ?_⟩;have := List.findIdx_getElem (xs := c) (p := fun v => decide (v ∈ zaY d b w)) (w := hlt);rw [decide_eq_true_iff] at this;have e : c[toW d b c w] = u := (List.getElem?_eq_some_iff.1 hu).2;rwa [<- e]
 rcases h.way with ⟨h1, h2⟩ | ⟨h1, s, h2, h3, h4⟩
 · have := List.all_eq_true.1 h2 w hw
   unfold zaM at this;rw [decide_eq_true_iff] at this;obtain ⟨k1, k2⟩ := key w this (by unfold zaY; rw [if_pos h1]; simp);exact ⟨k1, (fun e => by rw [h1] at e; cases e), k2⟩
 · obtain ⟨_, h5⟩ := zfJ h4
   obtain ⟨h6, h7⟩ := h5 w hw;unfold zmq zh2 at h7;obtain ⟨v, hv, hc⟩ := List.any_eq_true.1 h7;unfold zaM at hc;rw [decide_eq_true_iff] at hc;obtain ⟨k1, k2⟩ := key v hc (by unfold zaY; rw [h1, h3]; exact hv);exact ⟨k1, fun _ => by rw [h3]; exact h6, k2⟩
def zeQ (w : World) (C : List zn) (L : List zW) (c : List ByteArray) (e : Ending) (w' : World) : Prop := Chg (fun _ => False) w w' ∧
 (Yj C L c = true -> ∃ b0, e = .returned (.tuple #[.pointer (some ⟨b0, 0, none⟩), .int .i64 0]) ∧ w.heap.size <= b0 ∧ yR w' b0 180 (fun k => w.heap.size <= k ∧ k ≠ b0) L 0) ∧
 (Yj C L c = false -> e = .returned (.tuple #[.pointer none, .int .i64 2]))
theorem zgX {w w' : World} {C : List zn} {L : List zW} {c : List ByteArray} (hk : Chg (fun _ => False) w w') (h : Yj C L c = false) : zeQ w C L c (.returned (.tuple #[.pointer none, .int .i64 2])) w' :=
 ⟨hk, fun e => (by rw [h] at e; cases e), fun _ => rfl⟩
theorem zh4 {C : List zn} {k : Nat} {x : zn} (h : C[k]? = some x) : (C.take (k + 1)).all ZG = ((C.take k).all ZG && ZG x) := by
 rw [List.take_add_one, h, List.all_append]; simp
theorem zkW {C : List zn} {k : Nat} {x : zn} (h : C[k]? = some x) (hx : ZG x = false) : C.all ZG = false := by
 rw [Bool.eq_false_iff];intro q;have := List.all_eq_true.1 q x (List.mem_of_getElem? h);rw [hx] at this; cases this
set_option maxHeartbeats 4000000 in
set_option maxRecDepth 100000 in
theorem zhN (w : World) (v lv cv : Value) (P : List (zn × Value)) (L : List zW) (c : List ByteArray) (G G2 G3 : Nat -> Prop) (hv : yb w v G P) (hl : Zu w lv G2 L) (hc : zu w cv G3 c) (hL : L.length <= 1000) :
  Calls Tryz.prog 40 #[v, lv, cv] w (zeQ w (zj P) L c) := by
 have M1 := zb (zaq w cv G3 c hc);have NW := zb (fun w1 (q : Chg (fun _ => False) w w1) => zlL w1 lv L G2 (hl.chg q (fun _ _ e => e)) hL);have HV := zb hv;obtain ⟨la, cap, rfl, hpl, _⟩ := hv;obtain ⟨_, _, rfl, _, _⟩ := hl.shape;obtain ⟨_, _, rfl, _, _⟩ := hc;have CG := zb (fun k p (h : P[k]? = some p) => Zq h);have CL := zb (zO P);unfold maxLen at hpl;have LB := zb (show Yj (zj P) L c = (XR c && (decide (zc1 [] L = 0) && (zj P).all ZG)) from rfl);have LBAD := zb (fun w1 (q : Chg (fun _ => False) w w1) => @zgX w w1 (zj P) L c q);have LRES := zb (show ∀ e w1, zeQ w (zj P) L c e w1 ↔ _ from fun _ _ => Iff.rfl);generalize hcs : zj P = C at *;clear hcs hl;go_enter Tryz.func40, Tryz.ntmps40;go_wp2_with fail;(with_reducible refine M1.out.mono ?_);rintro e w2 ⟨rfl, d2⟩;have K2 := zb (show Chg (fun _ => False) w w2 from d2.chg);have N2 := zb (NW.out w2 K2.out);clear d2 M1 NW;cases hsb : XR c with
 | false =>
  have B := zb (LBAD.out w2 K2.out (by rw [LB.out, hsb]; rfl));clear hsb;go_wp2;go_ret2;exact B.out
 | true =>
 have SB := zb hsb;clear hsb;go_wp2_with fail;(with_reducible refine N2.out.mono ?_);rintro e w3 ⟨h0, h1, k3⟩;have K3 := zb (K2.out.trans k3);have hsz := K2.out.size;by_cases hn : zc1 [] L = 0
 rotate_left
 · obtain rfl := h1 hn
   have B := zb (LBAD.out w3 K3.out (by rw [LB.out, SB.out, decide_eq_false hn]; rfl));have g1 : (zc1 [] L != 0) = true := by rw [bne_iff_ne]; exact hn
   generalize zc1 [] L = ne at *;clear h0 h1 k3 hn N2;go_wp2;go_ret2;exact B.out
 obtain ⟨b0, rfl, hb0, hla⟩ := h0 hn;have HN := zb hn;have HB := zb (Nat.le_trans hsz hb0);have HLA := zb (show yR w3 b0 180 (fun k => w.heap.size <= k ∧ k ≠ b0) L 0 from hla.up (fun k hk => ⟨by have := hk.1; omega, hk.2.2⟩) (fun e => e.2 rfl));clear h0 h1 k3 hn N2 hb0 hla K2;go_wp2;go_loopw [24] (fun iv wr => ∃ k : Nat, k <= P.length ∧ iv = .int .i64 k ∧ Hid ((C.take k).all ZG = true ∧ Chg (fun _ => False) w3 wr)) (fun iv _ => P.length - (intOf iv).toNat)
 case atStart => exact ⟨0, by omega, rfl, zb ⟨by simp, Chg.refl _ _⟩⟩
 case round =>
  obtain ⟨k, hk, rfl, HI⟩ := hrel;obtain ⟨hall, hkc⟩ := HI.out;have ALL := zb hall;have KC := zb hkc;clear HI hall hkc;by_cases hlt : k < P.length
  rotate_left
  · obtain rfl : k = P.length := by omega
    have R := zb (show zeQ w C L c (.returned (.tuple #[.pointer (some ⟨b0, 0, none⟩), .int .i64 0])) wr from by
     have ha := ALL.out;rw [List.take_of_length_le (by rw [CL.out]; exact Nat.le_refl _)] at ha;have hb : Yj C L c = true := by rw [LB.out, SB.out, decide_eq_true HN.out, ha]; rfl
     exact ⟨K3.out.trans KC.out, fun _ => ⟨b0, rfl, HB.out, HLA.out.chg KC.out (fun e => e) (fun _ _ e => e)⟩, fun e => by rw [hb] at e; cases e⟩)
    go_wp2;go_ret2;exact R.out
  obtain ⟨⟨x, sv⟩, hp⟩ : ∃ p, P[k]? = some p := ⟨_, List.getElem?_eq_getElem hlt⟩;obtain ⟨_, _, e1, _, hcl⟩ := HV.out.chg (K3.out.trans KC.out) (fun _ _ e => e);cases e1;obtain ⟨g, o, sa, sc, rfl, hgg, hsv, c0, c1, c2, c3, c4, c5, c6, hca⟩ := hcl k _ hp;simp only at hsv;subst hsv;have HP := zb (CG.out _ _ hp);clear hcl hp hgg;simp only at c0 c1 c2 c3 c4 c5 c6 hca HP;have ka := zh (fun _ => False) wr (.cells #[.int .i64 x.kind, .int .u16 (x.sg : Int), .string x.sp, .slice sa x.fr.length sc, .int .i64 x.f, .int .i64 x.t, .int .i64 x.n] 64);have CH := zde (wr.alloc (.cells #[.int .i64 x.kind, .int .u16 (x.sg : Int), .string x.sp, .slice sa x.fr.length sc, .int .i64 x.f, .int .i64 x.t, .int .i64 x.n] 64)) x sa sc G (hca.chg ka (fun _ _ e => e));have NX := zb (fun (q : ZG x = true) => show (C.take (k + 1)).all ZG = true from by rw [zh4 HP.out, ALL.out, q]; rfl);have BD := zb (fun (q : ZG x = false) => show Yj C L c = false from by rw [LB.out, zkW HP.out q, Bool.and_false, Bool.and_false]);unfold xQ at CH;generalize ZG x = cb at *;obtain ⟨kind, sg, sp, fr, f, t, num⟩ := x;unfold xf at CH;simp only at c0 c1 c2 c3 c4 c5 c6 CH ka;have CH := zb CH;have KA := zb (KC.out.trans ka);clear ka hca HP KC;go_wp2_with fail;generalize wr.alloc (.cells #[.int .i64 kind, .int .u16 (sg : Int), .string sp, .slice sa fr.length sc, .int .i64 f, .int .i64 t, .int .i64 num] 64) = w4 at *;(with_reducible refine CH.out.mono ?_);rintro e w5 ⟨⟨z, rfl, hz⟩, k5⟩;have K5 := zb (KA.out.trans k5);clear CH k5 KA c0 c1 c2 c3 c4 c5 c6;cases cb with
  | false =>
   have g1 : (z != 0) = true := by rw [bne_iff_ne]; intro e; exact absurd (hz.1 e) (by decide)
   have RV := zb (LBAD.out w5 (K3.out.trans K5.out) (BD.out rfl));clear hz;go_wp2;go_ret2;exact RV.out
  | true =>
   have g1 : (z != 0) = false := by rw [hz.2 rfl]; rfl
   have NN := zb (NX.out rfl);clear hz NX;go_wp2;go_roundw
   case rel => exact ⟨k + 1, by omega, by go_num, zb ⟨NN.out, K5.out⟩⟩
   case measure => simp [intOf]; omega
def opB (op : Int) : Bool := decide (0 <= op) && decide (op < 8)
theorem zmp (w : World) (op : Int) : Calls Tryz.prog 41 #[.int .i64 op] w fun e w' => e = .returned (.bool (opB op)) ∧ w = w' := by
 unfold opB;by_cases h1 : 0 <= op
 · have g1 : decide (0 <= op) = true := decide_eq_true h1
   rw [g1, Bool.true_and];go_enter Tryz.func41, Tryz.ntmps41;go_wp2;go_ret;exact ⟨rfl, rfl⟩
 · have g1 : decide (0 <= op) = false := decide_eq_false h1
   rw [g1, Bool.false_and];go_enter Tryz.func41, Tryz.ntmps41;go_wp2;go_ret;exact ⟨rfl, rfl⟩
theorem zg5 {α : Type} {p : α -> Bool} : ∀ {l : List α} {k : Nat} {x : α}, l[k]? = some x -> p x = true -> (∀ (j : Nat) y, j < k -> l[j]? = some y -> p y = false) -> l.findIdx p = k
 | [], k, x, h, _, _ => by simp at h
 | a :: l, 0, x, h, hp, _ => by simp at h; subst h; rw [List.findIdx_cons, hp]; rfl
 | a :: l, k + 1, x, h, hp, hn => by
  rw [List.findIdx_cons, hn 0 a (by omega) rfl, zg5 (k := k) (by simpa using h) hp (fun j y hj hy => hn (j + 1) y (by omega) (by simpa using hy))]; rfl
theorem zkr {α : Type} {p : α -> Bool} {l : List α} (h : ∀ (j : Nat) y, j < l.length -> l[j]? = some y -> p y = false) : l.findIdx p = l.length := by
 rw [List.findIdx_eq_length];intro x hx;obtain ⟨j, hj⟩ := List.mem_iff_getElem?.1 hx;exact h j x (List.getElem?_eq_some_iff.1 hj).1 hj
theorem zdi {α : Type} {p : α -> Bool} {l : List α} {k : Nat} {x : α} (hx : l[k]? = some x) (hp : p x = false) (h : ∀ (j : Nat) y, j < k -> l[j]? = some y -> p y = false) : ∀ (j : Nat) y, j < k + 1 -> l[j]? = some y -> p y = false := fun j y hj hy => by
 rcases Nat.lt_or_ge j k with q | q
 · exact h j y q hy
 · obtain rfl : j = k := by omega
   rw [hx] at hy; cases hy; exact hp
theorem zin (w : World) (x : zW) (sa : Option Addr) (sc : Nat) (op : Int) (cv : Value) (c : List ByteArray) (p q : Nat) (G G' : Nat -> Prop) (hx : zu w (.slice sa x.2.length sc) G x.2) (hc : zu w cv G' c) (hcl : c.length <= 1000) (hp : w.heap[p]? = some (.cells #[.int .i64 op] 3 (0, 0))) (hq : w.heap[q]? = some (.cells #[cv] 26 (0, 0))) :
  Calls Tryz.prog 115 #[.agg #[.int .i64 x.1, .slice sa x.2.length sc], .pointer (some ⟨p, 0, none⟩), .pointer (some ⟨q, 0, none⟩)] w fun e w' => e = .returned (.bool (zb9 op c x)) ∧ Chg (fun _ => False) w w' := by
 have ka := zh (fun _ => False) w (.cells #[.int .i64 x.1, .slice sa x.2.length sc] 56);have WI := zb (zbH (w.alloc (.cells #[.int .i64 x.1, .slice sa x.2.length sc] 56)) _ cv x.2 c G G' (hx.chg ka (fun _ _ e => e)) (hc.chg ka (fun _ _ e => e)) hcl);have c0 := ze (o := 0) (ka.obj (fun e => e) hp) rfl;have c1 := ze (o := 0) (ka.obj (fun e => e) hq) rfl;have KA := zb ka;obtain ⟨ca, cc, rfl, _, _⟩ := hc;have SP := zb (show zb9 op c x = (decide (x.1 = op) && x.2.all (zaM c)) from rfl);generalize zb9 op c x = r at *;obtain ⟨oq, l⟩ := x;simp only at WI c0 c1 SP;generalize l.all (zaM c) = al at *;clear hx hp hq ka;by_cases hop : oq = op
 · have RV := zb (show r = al from by rw [SP.out, decide_eq_true hop]; rfl)
   subst hop;have g1 : (oq == oq) = true := by simp
   clear SP;go_enter Tryz.func115, Tryz.ntmps115;go_wp2_with fail;(with_reducible refine WI.out.mono ?_);rintro e w2 ⟨rfl, k2⟩;go_wp2;go_ret;exact ⟨by rw [RV.out]; rfl, KA.out.trans k2⟩
 · have RV := zb (show r = false from by rw [SP.out, decide_eq_false hop]; rfl)
   have g1 : (oq == op) = false := by rw [beq_eq_false_iff_ne]; exact hop
   clear SP hop;go_enter Tryz.func115, Tryz.ntmps115;go_wp2;go_ret;exact ⟨by rw [RV.out]; rfl, KA.out⟩
def xt (op : Int) (c : List ByteArray) (L : List zW) : Int := if Yw op c L < L.length then (Yw op c L : Int) else -1
set_option maxRecDepth 100000 in
theorem ziU (w : World) (lv : Value) (L : List zW) (op : Int) (cv : Value) (c : List ByteArray) (p q : Nat) (G G' : Nat -> Prop) (hl : Zu w lv G L) (hc : zu w cv G' c) (hcl : c.length <= 1000) (hp : w.heap[p]? = some (.cells #[.int .i64 op] 3 (0, 0))) (hq : w.heap[q]? = some (.cells #[cv] 26 (0, 0))) :
  Calls Tryz.prog 114 #[lv, .func (.func 115) #[] #[.pointer (some ⟨p, 0, none⟩), .pointer (some ⟨q, 0, none⟩)]] w fun e w' => e = .returned (.int .i64 (xt op c L)) ∧ Chg (fun _ => False) w w' := by
 obtain ⟨la, cap, rfl, hl0, hl1⟩ := hl.shape;have HL := zb hl;have FI := zb (fun w1 (k : Chg (fun _ => False) w w1) x sa sc (hs : zu w1 (.slice sa x.2.length sc) G x.2) => zin w1 x sa sc op cv c p q G G' hs (hc.chg k (fun _ _ e => e)) hcl (k.obj (fun e => e) hp) (k.obj (fun e => e) hq));unfold maxLen at hl1;clear hl hp hq hc;go_enter Tryz.func114, Tryz.ntmps114;go_wp2;go_loopw [8] (fun iv wr => ∃ k : Nat, k <= L.length ∧ iv = .int .i64 k ∧ Hid ((∀ (j : Nat) y, j < k -> L[j]? = some y -> zb9 op c y = false) ∧ Chg (fun _ => False) w wr)) (fun iv _ => L.length - (intOf iv).toNat)
 case atStart => exact ⟨0, by omega, rfl, zb ⟨fun j y hj => by omega, Chg.refl _ _⟩⟩
 case round =>
  obtain ⟨k, hk, rfl, HI⟩ := hrel;by_cases hlt : k < L.length
  · obtain ⟨y, hy⟩ : ∃ y, L[k]? = some y := ⟨_, List.getElem?_eq_getElem hlt⟩
    obtain ⟨g, o, sa, sc, rfl, _, c0, c1, hs⟩ := (HL.out.chg HI.out.2 (fun _ _ e => e)).get hy;have F := zb (FI.out wr HI.out.2 y sa sc hs.at_);have KC := zb HI.out.2;have YES := zb (fun q => zg5 hy q HI.out.1);have NO := zb (fun q => zdi hy q HI.out.1);clear HI hy hs FI;generalize zb9 op c y = r at *;obtain ⟨oq, l⟩ := y;simp only at F c0 c1;cases r with
    | true =>
     have R := zb (show xt op c L = (k : Int) from by
      have := YES.out rfl;unfold xt Yw;rw [this, if_pos hlt])
     clear YES NO;go_wp2_with fail;(with_reducible refine F.out.mono ?_);rintro e w2 ⟨rfl, k2⟩;go_wp2;go_ret;exact ⟨by rw [R.out]; rfl, KC.out.trans k2⟩
    | false =>
     have N := zb (NO.out rfl);clear YES NO;go_wp2_with fail;(with_reducible refine F.out.mono ?_);rintro e w2 ⟨rfl, k2⟩;have K2 := zb (KC.out.trans k2);clear k2;go_wp2;go_roundw
     case rel => exact ⟨k + 1, by omega, by go_num, zb ⟨N.out, K2.out⟩⟩
     case measure => simp [intOf]; omega
  · obtain rfl : k = L.length := by omega
    have R := zb (show xt op c L = -1 from by
     have := zkr HI.out.1;unfold xt Yw;rw [this, if_neg (by omega)])
    go_wp2;go_ret;exact ⟨by rw [R.out]; rfl, HI.out.2⟩
theorem zjC (w : World) (lv : Value) (L : List zW) (op : Int) (cv : Value) (c : List ByteArray) (G G' : Nat -> Prop) (hl : Zu w lv G L) (hc : zu w cv G' c) (hcl : c.length <= 1000) :
  Calls Tryz.prog 89 #[lv, .int .i64 op, cv] w fun e w' => e = .returned (.tuple #[.int .i64 (xt op c L), .bool (decide (Yw op c L < L.length))]) ∧ Chg (fun _ => False) w w' := by
 obtain ⟨la, cap, rfl, hl0, hl1⟩ := hl.shape;obtain ⟨ca, cc, rfl, hc0, hc1⟩ := id hc;have k1 := zh (fun _ => False) w (.cells #[.int .i64 op] 3);have k2 := zh (fun _ => False) (w.alloc (.cells #[.int .i64 op] 3)) (.cells #[.slice ca c.length cc] 26);have K := zb (k1.trans k2);have o1 := zf (w.alloc (.cells #[.int .i64 op] 3)) (.cells #[.slice ca c.length cc] 26);have o0 := k2.obj (fun e => e) (zf w (.cells #[.int .i64 op] 3));have IX := ziU _ _ L op _ c _ _ G G' (hl.chg (k1.trans k2) (fun _ _ e => e)) (hc.chg (k1.trans k2) (fun _ _ e => e)) hcl o0 o1;rw [World.size_alloc] at IX;have IX := zb IX;unfold maxLen at hl1;by_cases hs : Yw op c L < L.length
 · have h0 : 0 <= xt op c L := by unfold xt; rw [if_pos hs]; omega
   have g1 : decide (0 <= xt op c L) = true := decide_eq_true h0;have R := zb (decide_eq_true hs);clear hs hl hc k1 k2 o1 o0 hc0 hc1;generalize xt op c L = sv at *;go_enter Tryz.func89, Tryz.ntmps89;go_wp2_with fail;(with_reducible refine IX.out.mono ?_);rintro e w2 ⟨rfl, k2⟩;go_wp2;go_ret2;exact ⟨by rw [R.out]; rfl, K.out.trans k2⟩
 · have h0 : xt op c L = -1 := by unfold xt; rw [if_neg hs]
   have R := zb (decide_eq_false hs);rw [h0] at IX ⊢;clear hs hl hc k1 k2 o1 o0 hc0 hc1 h0;go_enter Tryz.func89, Tryz.ntmps89;go_wp2_with fail;(with_reducible refine IX.out.mono ?_);rintro e w2 ⟨rfl, k2⟩;go_wp2;go_ret2;exact ⟨by rw [R.out]; rfl, K.out.trans k2⟩
theorem zmj (w : World) (av : Value) (l : List ByteArray) (v : ByteArray) (p : Nat) (G : Nat -> Prop) (hl : zu w av G l) (hp : w.heap[p]? = some (.cells #[av] 25 (0, 0))) :
  Calls Tryz.prog 94 #[.string v, .pointer (some ⟨p, 0, none⟩)] w fun e w' => e = .returned (.bool (decide (v ∈ l))) ∧ w = w' := by
 have CO := zb (zbw w av G l v hl);have c0 := ze (o := 0) hp rfl;obtain ⟨_, _, rfl, _, _⟩ := hl;clear hp;go_enter Tryz.func94, Tryz.ntmps94;go_wp2_with fail;(with_reducible refine CO.out.mono ?_);rintro e w2 ⟨rfl, rfl⟩;go_wp2;go_ret;exact ⟨rfl, rfl⟩
def zfi (c l : List ByteArray) : Nat := c.findIdx fun v => decide (v ∈ l)
set_option maxRecDepth 100000 in
theorem ziY (w : World) (cv av : Value) (c l : List ByteArray) (p : Nat) (G G' : Nat -> Prop) (hc : zu w cv G c) (hl : zu w av G' l) (hp : w.heap[p]? = some (.cells #[av] 25 (0, 0))) (hr : zfi c l < c.length) :
  Calls Tryz.prog 93 #[cv, .func (.func 94) #[] #[.pointer (some ⟨p, 0, none⟩)]] w fun e w' => e = .returned (.int .i64 (zfi c l : Int)) ∧ w = w' := by
 have FI := zb (fun v => zmj w av l v p G' hl hp);obtain ⟨ca, cc, rfl, hc0, hcc⟩ := hc;have HCC := zb hcc;have HR := zb hr;unfold maxLen at hc0;clear hcc hp hl hr;go_enter Tryz.func93, Tryz.ntmps93;go_wp2;go_loop [8] (fun iv => ∃ k : Nat, k <= c.length ∧ iv = .int .i64 k ∧ Hid (∀ (j : Nat) y, j < k -> c[j]? = some y -> decide (y ∈ l) = false)) (fun iv => c.length - (intOf iv).toNat)
 case atStart => exact ⟨0, by omega, rfl, zb (fun j y hj => by omega)⟩
 case round =>
  obtain ⟨k, hk, rfl, HI⟩ := hrel;by_cases hlt : k < c.length
  · obtain ⟨y, hy⟩ : ∃ y, c[k]? = some y := ⟨_, List.getElem?_eq_getElem hlt⟩
    obtain ⟨lb, lo, rfl, _, c0, _⟩ := HCC.out k y hy;have F := zb (FI.out y);have YES := zb (fun q => zg5 (p := fun v => decide (v ∈ l)) hy q HI.out);have NO := zb (fun q => zdi (p := fun v => decide (v ∈ l)) hy q HI.out);clear HI hy FI;generalize decide (y ∈ l) = r at *;cases r with
    | true =>
     have R := zb (show zfi c l = k from YES.out rfl);clear YES NO;go_wp2_with fail;(with_reducible refine F.out.mono ?_);rintro e w2 ⟨rfl, rfl⟩;go_wp2;go_ret;exact ⟨by rw [R.out]; rfl, rfl⟩
    | false =>
     have N := zb (NO.out rfl);clear YES NO;go_wp2_with fail;(with_reducible refine F.out.mono ?_);rintro e w2 ⟨rfl, rfl⟩;go_wp2;go_round
     case rel => exact ⟨k + 1, by omega, by go_num, N⟩
     case measure => simp [intOf]; omega
  · obtain rfl : k = c.length := by omega
    exfalso;have h1 := zkr (p := fun v => decide (v ∈ l)) HI.out;have h2 := HR.out;unfold zfi at h2;omega
end Go.Proofs.YthdfplafihmejaaGreat
