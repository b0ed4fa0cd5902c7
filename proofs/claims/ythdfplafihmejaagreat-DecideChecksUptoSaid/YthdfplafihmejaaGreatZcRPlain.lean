/-
  Words in plain Lean: the atoms of a word, which words may be, where words stand in a word. No program in sight. Words, by atoms and by bytes. Layer 10: a word that is in the list twice (plain). Layer 10: hits stand where they say, and rise (plain). Layer 10: what stands in a word stands in it with more ahead and behind (plain). Layer 11: what words lead to by rules (plain). Layer 11: what the row of a word is (plain): just what is reached, each once; or more than the bound is reached. Layer 11: what follows for rows (plain): on, more rules, what stands around. Layer 11: the steps from a word to another one (plain).
-/
namespace Go.Proofs.YthdfplafihmejaaGreat

def zD (l : List UInt8) (i : Nat) : Nat := (l.getD (2 * i) 0).toNat * 256 + (l.getD (2 * i + 1) 0).toNat
def zt (l : List UInt8) : Nat := l.length / 2
def zI (l : List UInt8) : List Nat := (List.range (zt l)).map (zD l)
def Zm (l : List UInt8) : Bool := decide (l.length % 2 = 0) && decide (1 <= zt l) && decide (zt l <= 8) && (zI l).all (fun a => a != 0)
theorem yu (l : List UInt8) (i : Nat) : zD l i < 65536 := by
 unfold zD; have := (l.getD (2 * i) 0).toNat_lt; have := (l.getD (2 * i + 1) 0).toNat_lt; omega
theorem zJ (l : List UInt8) : (zI l).length = zt l := by simp [zI]
theorem ZW (l : List UInt8) {i : Nat} (h : i < zt l) : (zI l)[i]? = some (zD l i) := by
 unfold zI; rw [List.getElem?_map, List.getElem?_range h]; rfl
theorem zak (l : List UInt8) {i : Nat} (h : i < zt l) : (zI l).take (i + 1) = (zI l).take i ++ [zD l i] := by
 have hl : i < (zI l).length := by rw [zJ]; exact h
 rw [List.take_succ_eq_append_getElem hl];have := ZW l h;rw [List.getElem?_eq_getElem hl] at this;rw [Option.some.inj this]
theorem Zc (l : List UInt8) : Zm l = true ↔ l.length % 2 = 0 ∧ 1 <= zt l ∧ zt l <= 8 ∧ ∀ i, i < zt l -> zD l i ≠ 0 := by
 unfold Zm;simp only [Bool.and_eq_true, decide_eq_true_eq, List.all_eq_true, bne_iff_ne];constructor
 ·rintro ⟨⟨⟨h1, h2⟩, h3⟩, h4⟩
  exact ⟨h1, h2, h3, fun i hi => h4 _ (List.mem_of_getElem? (ZW l hi))⟩
 ·rintro ⟨h1, h2, h3, h4⟩
  refine ⟨⟨⟨h1, h2⟩, h3⟩, fun a ha => ?_⟩;obtain ⟨i, hi, rfl⟩ := List.mem_map.1 ha;exact h4 i (List.mem_range.1 hi)
def xq (v w : List UInt8) (at_ : Nat) : Bool := Zm v && (zI v).isPrefixOf ((zI w).drop at_)
def zbU (l : List (List UInt8)) (w : List UInt8) (at_ : Nat) : List Nat := (List.range l.length).filter fun i => xq (l.getD i []) w at_
def YX (l : List (List UInt8)) (w : List UInt8) (n : Nat) : List (Nat × Nat) := (List.range n).flatMap fun a => (zbU l w a).map fun i => (a, i)
def zgc (l : List (List UInt8)) (w : List UInt8) : List (Nat × Nat) := YX l w (zt w)
theorem za2 (l : List (List UInt8)) (w : List UInt8) (n : Nat) : YX l w (n + 1) = YX l w n ++ (zbU l w n).map fun i => (n, i) := by
 unfold YX; rw [List.range_succ, List.flatMap_append]; simp
theorem zce (l : List (List UInt8)) (w : List UInt8) (a : Nat) : (zbU l w a).length <= l.length := by
 have := List.length_filter_le (fun i => xq (l.getD i []) w a) (List.range l.length)
 simpa [zbU] using this
def putTo (ps : List (List Nat)) (p : List Nat) : Nat -> List (List Nat)
 | 0 => ps
 | i + 1 => if p.take (i + 1) ∈ putTo ps p i then putTo ps p i else putTo ps p i ++ [p.take (i + 1)]
def znI (ps : List (List Nat)) (p : List Nat) : List (List Nat) := putTo ps p p.length
def Ze (l : List (List UInt8)) : Nat -> List (List Nat)
 | 0 => [[]]
 | n + 1 => if Zm (l.getD n []) then znI (Ze l n) (zI (l.getD n [])) else Ze l n
def Za (l : List (List UInt8)) (n : Nat) (p : List Nat) : List Nat := (List.range n).filter fun i => Zm (l.getD i []) && (zI (l.getD i []) == p)
structure zge (ps : List (List Nat)) : Prop where
 root : ps[0]? = some []
 nodup : ps.Nodup
 down : ∀ p a, p ++ [a] ∈ ps -> p ∈ ps
theorem zjq : zge [[]] := ⟨rfl, by simp, fun p a h => by simp at h⟩
theorem zge.mem_nil {ps : List (List Nat)} (h : zge ps) : [] ∈ ps := List.mem_of_getElem? h.root
theorem XV (ps : List (List Nat)) (p : List Nat) : ∀ i, ∀ q, q ∈ putTo ps p i ↔ q ∈ ps ∨ ∃ j, 1 <= j ∧ j <= i ∧ q = p.take j
 | 0, q => by simp [putTo]; omega
 | i + 1, q => by
  have ih := XV ps p i;rw [putTo];split
  ·rename_i hm
   rw [ih];constructor
   ·rintro (h | ⟨j, h1, h2, h3⟩)
    ·exact .inl h
    ·exact .inr ⟨j, h1, by omega, h3⟩
   ·rintro (h | ⟨j, h1, h2, h3⟩)
    ·exact .inl h
    ·rcases Nat.lt_or_ge i j with q' | q'
     ·obtain rfl : j = i + 1 := by omega
      rw [ih] at hm; rw [h3]; exact hm
     ·exact .inr ⟨j, h1, q', h3⟩
  ·rw [List.mem_append, ih, List.mem_singleton]
   constructor
   ·rintro ((h | ⟨j, h1, h2, h3⟩) | h)
    ·exact .inl h
    ·exact .inr ⟨j, h1, by omega, h3⟩
    ·exact .inr ⟨i + 1, by omega, by omega, h⟩
   ·rintro (h | ⟨j, h1, h2, h3⟩)
    ·exact .inl (.inl h)
    ·rcases Nat.lt_or_ge i j with q' | q'
     ·obtain rfl : j = i + 1 := by omega
      exact .inr h3
     ·exact .inl (.inr ⟨j, h1, q', h3⟩)
theorem zge.putTo {ps : List (List Nat)} (h : zge ps) (p : List Nat) : ∀ i, i <= p.length -> zge (putTo ps p i)
 | 0, _ => h
 | i + 1, hi => by
  have ih := zge.putTo h p i (by omega);rw [Go.Proofs.YthdfplafihmejaaGreat.putTo];split
  ·exact ih
  ·rename_i hm
   refine ⟨?_, ?_, ?_⟩
   ·rw [List.getElem?_append_left]
    ·exact ih.root
    ·exact (List.getElem?_eq_some_iff.1 ih.root).1
   ·rw [List.nodup_append]
    refine ⟨ih.nodup, by simp, fun a ha b hb => ?_⟩;rw [List.mem_singleton] at hb;subst hb;rintro rfl;exact hm ha
   ·intro q a hq
    rw [List.mem_append, List.mem_singleton] at hq;rcases hq with hq | hq
    ·exact List.mem_append_left _ (ih.down q a hq)
    ·have hl : q = p.take i := by
      have e := congrArg List.dropLast hq;rw [List.dropLast_concat] at e;rw [e, List.dropLast_eq_take, List.length_take, List.take_take]
      congr 1; omega
     rw [hl];refine List.mem_append_left _ ?_;rcases Nat.eq_zero_or_pos i with rfl | hpos
     ·simpa [Go.Proofs.YthdfplafihmejaaGreat.putTo] using h.mem_nil
     ·exact (XV ps p i _).2 (.inr ⟨i, hpos, Nat.le_refl _, rfl⟩)
theorem zdy {l m : List Nat} : l <+: m ↔ l.length <= m.length ∧ ∀ i, i < l.length -> l[i]? = m[i]? := by
 constructor
 ·intro h
  refine ⟨h.length_le, fun i hi => ?_⟩;obtain ⟨t, rfl⟩ := h;rw [List.getElem?_append_left hi]
 ·rintro ⟨h1, h2⟩
  rw [List.prefix_iff_eq_take];apply List.ext_getElem?;intro i;rw [List.getElem?_take];split
  ·rename_i hi; exact h2 i hi
  ·rename_i hi; rw [List.getElem?_eq_none (by omega)]
def zjJ (v w : List UInt8) (a : Nat) : Bool := decide (2 * a + v.length <= 2 * zt w) && ((w.drop (2 * a)).take v.length == v)
theorem zcK {v w : List UInt8} {a : Nat} (h : 2 * a + v.length <= w.length) : (w.drop (2 * a)).take v.length = v ↔ ∀ i, i < v.length -> v.getD i 0 = w.getD (2 * a + i) 0 := by
 constructor
 ·intro e i hi
  rw [<- e, List.getD_eq_getElem?_getD, List.getElem?_take, if_pos hi, List.getElem?_drop, <- List.getD_eq_getElem?_getD]
 ·intro h2
  apply List.ext_getElem?;intro i;rw [List.getElem?_take];split
  ·rename_i hi
   have := h2 i hi;rw [List.getD_eq_getElem?_getD, List.getD_eq_getElem?_getD, List.getElem?_eq_getElem hi, List.getElem?_eq_getElem (by omega)] at this;rw [List.getElem?_drop, List.getElem?_eq_getElem hi, List.getElem?_eq_getElem (by omega)];simp at this; rw [this]
  ·rename_i hi; rw [List.getElem?_eq_none (by omega)]
theorem zel (v w : List UInt8) (a : Nat) : xq v w a = (Zm v && zjJ v w a) := by
 unfold xq;cases hm : Zm v with
 | false => rfl
 | true =>
  rw [Bool.true_and, Bool.true_and];have hv := (Zc v).1 hm;have he : v.length = 2 * zt v := by unfold zt; omega
  have hw : 2 * zt w <= w.length := by unfold zt; omega
  rw [Bool.eq_iff_iff, List.isPrefixOf_iff_prefix, zdy];unfold zjJ;rw [Bool.and_eq_true, decide_eq_true_eq, beq_iff_eq, List.length_drop, zJ, zJ];constructor
  ·rintro ⟨h1, h2⟩
   have hlen : 2 * a + v.length <= 2 * zt w := by have := hv.2.1; omega
   refine ⟨hlen, (zcK (by omega)).2 fun i hi => ?_⟩;have hk : i / 2 < zt v := by omega
   have h3 := h2 (i / 2) hk;rw [ZW v hk, List.getElem?_drop, ZW w (by omega)] at h3;have h4 := Option.some.inj h3;unfold zD at h4;rw [show 2 * (a + i / 2) = 2 * a + 2 * (i / 2) from by omega] at h4;have b1 := (v.getD (2 * (i / 2)) 0).toNat_lt;have b2 := (v.getD (2 * (i / 2) + 1) 0).toNat_lt;have b3 := (w.getD (2 * a + 2 * (i / 2)) 0).toNat_lt;have b4 := (w.getD (2 * a + 2 * (i / 2) + 1) 0).toNat_lt;rcases (by omega : i = 2 * (i / 2) ∨ i = 2 * (i / 2) + 1) with e | e
   ·rw [e]; exact UInt8.toNat_inj.1 (by omega)
   ·rw [e]; exact UInt8.toNat_inj.1 (by rw [<- Nat.add_assoc]; omega)
  ·rintro ⟨h1, h2⟩
   have h3 := (zcK (by omega)).1 h2;refine ⟨by omega, fun k hk => ?_⟩;rw [ZW v hk, List.getElem?_drop, ZW w (by omega)];unfold zD;rw [h3 (2 * k) (by omega), h3 (2 * k + 1) (by omega), show 2 * (a + k) = 2 * a + 2 * k from by omega]; rfl
def cnt (N : Nat) (l : List (Nat × Nat)) : Nat := l.countP fun h => h.2 == N
theorem zfE {L : List (List UInt8)} {w : List UInt8} {a i : Nat} : i ∈ zbU L w a ↔ i < L.length ∧ xq (L.getD i []) w a = true := by
 unfold zbU; rw [List.mem_filter, List.mem_range]
theorem Xd {L : List (List UInt8)} {w : List UInt8} {a i : Nat} : ∀ {n : Nat}, (a, i) ∈ YX L w n ↔ a < n ∧ i < L.length ∧ xq (L.getD i []) w a = true
 | 0 => by simp [YX]
 | n + 1 => by
  rw [za2, List.mem_append, Xd, List.mem_map];constructor
  ·rintro (h | ⟨j, hj, e⟩)
   ·exact ⟨by omega, h.2⟩
   ·cases e
    exact ⟨by omega, zfE.1 hj⟩
  ·rintro ⟨h1, h2⟩
   by_cases e : a < n
   ·exact .inl ⟨e, h2⟩
   ·obtain rfl : n = a := by omega
    exact .inr ⟨i, zfE.2 h2, rfl⟩
theorem Yb (v w : List UInt8) (a : Nat) : xq v w a = true ↔ Zm v = true ∧ 2 * a + v.length <= 2 * zt w ∧ (w.drop (2 * a)).take v.length = v := by
 rw [zel, Bool.and_eq_true];unfold zjJ;rw [Bool.and_eq_true, decide_eq_true_eq, beq_iff_eq]
theorem YB {v : List UInt8} (h : Zm v = true) : 2 <= v.length ∧ v.length % 2 = 0 := by
 obtain ⟨h1, h2, _⟩ := (Zc v).1 h;unfold zt at h2;exact ⟨by omega, h1⟩
abbrev Wd := List UInt8
abbrev Rul := Wd × Wd
def Zn (r : Rul) : Bool := Zm r.1 && Zm r.2 && decide (zt r.2 <= zt r.1)
def yL (R : List Rul) : List Wd := R.map fun r => if Zn r then r.1 else []
def ZJ (w : Wd) (a n : Nat) (v : Wd) : Wd := w.take (2 * a) ++ v ++ w.drop (2 * (a + n))
def ZP (R : List Rul) (k : Nat) : Rul := R.getD k ([], [])
def zdt (R : List Rul) (w : Wd) (h : Nat × Nat) : Wd := ZJ w h.1 (zt (ZP R h.2).1) (ZP R h.2).2
def ZB (R : List Rul) (w : Wd) : List ((Nat × Nat) × Wd) := (zgc (yL R) w).map fun h => (h, zdt R w h)
abbrev Ent := Wd × (Int × (Nat × Nat))
def zx (r : List Ent) : List Wd := r.map (·.1)
def ZD (bound i : Nat) : List ((Nat × Nat) × Wd) -> List Ent -> Option (List Ent)
 | [], r => some r
 | (s, v) :: t, r => if v ∈ zx r then ZD bound i t r else if r.length = bound then none else ZD bound i t (r ++ [(v, ((i : Int), s))])
def Zr (r : List Ent) (i : Nat) : Wd := (r.getD i ([], (0, (0, 0)))).1
def YW (R : List Rul) (bound : Nat) : Nat -> Nat -> List Ent -> Option (List Ent)
 | 0, _, r => some r
 | f + 1, i, r => if i < r.length then (ZD bound i (ZB R (Zr r i)) r).bind (YW R bound f (i + 1)) else some r
def Xy (w : Wd) : List Ent := [(w, (-1, (0, 0)))]
def zbO (R : List Rul) (w : Wd) (bound : Nat) : Option (List Ent) := YW R bound bound 0 (Xy w)
def zmD (l : Wd) : Prop := l.length % 2 = 0 ∧ ∀ i, i < zt l -> zD l i ≠ 0
theorem zcv {l : Wd} : Zm l = true ↔ zmD l ∧ 1 <= zt l ∧ zt l <= 8 := by
 rw [Zc];exact ⟨fun h => ⟨⟨h.1, h.2.2.2⟩, h.2.1, h.2.2.1⟩, fun h => ⟨h.1.1, h.2.1, h.2.2, h.1.2⟩⟩
theorem xO (a b : Wd) {i : Nat} (h : 2 * i + 1 < a.length) : zD (a ++ b) i = zD a i := by
 unfold zD;simp only [List.getD_eq_getElem?_getD];rw [List.getElem?_append_left (by omega), List.getElem?_append_left h]
theorem za4 (a b : Wd) {i : Nat} (he : a.length % 2 = 0) (h : zt a <= i) : zD (a ++ b) i = zD b (i - zt a) := by
 unfold zt at h ⊢;unfold zD;simp only [List.getD_eq_getElem?_getD];rw [List.getElem?_append_right (by omega), List.getElem?_append_right (by omega), show 2 * i - a.length = 2 * (i - a.length / 2) by omega, show 2 * i + 1 - a.length = 2 * (i - a.length / 2) + 1 by omega]
theorem zc8 {a b : Wd} (ha : zmD a) (hb : zmD b) : zmD (a ++ b) := by
 refine ⟨by rw [List.length_append]; have := ha.1; have := hb.1; omega, fun i hi => ?_⟩;have h1 := ha.1;unfold zt at hi;rw [List.length_append] at hi;by_cases h : i < zt a
 ·rw [xO a b (by unfold zt at h; omega)]; exact ha.2 i h
 ·rw [za4 a b h1 (by omega)]
  exact hb.2 _ (by unfold zt at h ⊢; omega)
theorem zkj {a : Wd} (ha : zmD a) (k : Nat) : zmD (a.take (2 * k)) := by
 have h1 := ha.1;refine ⟨by rw [List.length_take]; omega, fun i hi => ?_⟩;unfold zt at hi;rw [List.length_take] at hi
 have e : zD (a.take (2 * k)) i = zD a i := by
  have := xO (a.take (2 * k)) (a.drop (2 * k)) (i := i) (by rw [List.length_take]; omega);rw [List.take_append_drop] at this;exact this.symm
 rw [e];exact ha.2 i (by unfold zt; omega)
theorem zkk {a : Wd} (ha : zmD a) (k : Nat) : zmD (a.drop (2 * k)) := by
 have h1 := ha.1;refine ⟨by rw [List.length_drop]; omega, fun i hi => ?_⟩;unfold zt at hi;rw [List.length_drop] at hi
 have e : zD (a.drop (2 * k)) i = zD a (i + k) := by
  unfold zD;simp only [List.getD_eq_getElem?_getD, List.getElem?_drop];rw [show 2 * k + 2 * i = 2 * (i + k) by omega, show 2 * k + (2 * i + 1) = 2 * (i + k) + 1 by omega]
 rw [e];exact ha.2 _ (by unfold zt; omega)
theorem zbr (R : List Rul) (k : Nat) : (yL R).getD k [] = if Zn (ZP R k) then (ZP R k).1 else [] := by
 unfold yL ZP;rw [List.getD_eq_getElem?_getD, List.getElem?_map, List.getD_eq_getElem?_getD];cases R[k]? with
 | none => simp
 | some r => rfl
theorem yh (R : List Rul) : (yL R).length = R.length := by simp [yL]
theorem xi (r : Rul) : Zn r = true ↔ Zm r.1 = true ∧ Zm r.2 = true ∧ zt r.2 <= zt r.1 := by
 unfold Zn; rw [Bool.and_eq_true, Bool.and_eq_true, decide_eq_true_eq, and_assoc]
theorem zhu {w : Wd} {a n : Nat} {v : Wd} (hw : Zm w = true) (hv : Zm v = true) (h : a + n <= zt w) (hn : zt v <= n) : Zm (ZJ w a n v) = true ∧ (ZJ w a n v).length = w.length - 2 * n + v.length := by
 obtain ⟨g1, g2, g3⟩ := zcv.1 hw;obtain ⟨f1, f2, f3⟩ := zcv.1 hv;have e1 := g1.1;have e2 := f1.1
 have el : (ZJ w a n v).length = w.length - 2 * n + v.length := by
  unfold ZJ;unfold zt at h;simp only [List.length_append, List.length_take, List.length_drop];omega
 refine ⟨zcv.2 ⟨zc8 (zc8 (zkj g1 _) f1) (zkk g1 _), ?_, ?_⟩, el⟩
 ·show 1 <= zt (ZJ w a n v)
  unfold zt at *;rw [el]; omega
 ·show zt (ZJ w a n v) <= 8
  unfold zt at *;rw [el]; omega
def zf7 (R : List Rul) (u v : Wd) : Prop := ∃ h, (h, v) ∈ ZB R u
inductive Reach (R : List Rul) (w : Wd) : Wd -> Prop
 | refl : Reach R w w
 | tail {u v : Wd} : Reach R w u -> zf7 R u v -> Reach R w v
theorem Reach.trans {R : List Rul} {u v w : Wd} (h : Reach R u v) (k : Reach R v w) : Reach R u w := by
 induction k with
 | refl => exact h
 | tail _ s ih => exact ih.tail s
theorem yi (r : List Ent) : (zx r).length = r.length := by simp [zx]
theorem xl (r : List Ent) (e : Ent) : zx (r ++ [e]) = zx r ++ [e.1] := by simp [zx]
theorem zap {r : List Ent} {i : Nat} (h : i < r.length) : Zr r i ∈ zx r := by
 unfold Zr zx;rw [List.getD_eq_getElem?_getD, List.getElem?_eq_getElem h, List.mem_map];exact ⟨_, List.getElem_mem h, rfl⟩
theorem yF {r : List Ent} (t : List Ent) {i : Nat} (h : i < r.length) : Zr (r ++ t) i = Zr r i := by
 unfold Zr;rw [List.getD_eq_getElem?_getD, List.getElem?_append_left h, <- List.getD_eq_getElem?_getD]
theorem zd1 {r : List Ent} {v : Wd} (h : v ∈ zx r) : ∃ i, i < r.length ∧ Zr r i = v := by
 unfold zx at h;rw [List.mem_map] at h;obtain ⟨e, he, rfl⟩ := h;obtain ⟨i, hi, rfl⟩ := List.getElem_of_mem he;refine ⟨i, hi, ?_⟩;unfold Zr;rw [List.getD_eq_getElem?_getD, List.getElem?_eq_getElem hi]; rfl
theorem Yk (b i : Nat) : ∀ (l m : List ((Nat × Nat) × Wd)) (r : List Ent), ZD b i (l ++ m) r = (ZD b i l r).bind (ZD b i m)
 | [], _, _ => rfl
 | (s, v) :: t, m, r => by
  simp only [List.cons_append, ZD];split
  ·exact Yk b i t m r
  ·split
   ·rfl
   ·exact Yk b i t m _
theorem Xr {b i : Nat} : ∀ {l : List ((Nat × Nat) × Wd)} {r r' : List Ent}, ZD b i l r = some r' -> (zx r).Nodup -> r.length <= b -> (zx r').Nodup ∧ r'.length <= b ∧ (∃ t, r' = r ++ t) ∧ (∀ v ∈ zx r', v ∈ zx r ∨ ∃ h, (h, v) ∈ l) ∧ ∀ x ∈ l, x.2 ∈ zx r'
 | [], r, r', h, hn, hb => by
  cases h;exact ⟨hn, hb, ⟨[], by simp⟩, fun v hv => .inl hv, by simp⟩
 | (s, v) :: t, r, r', h, hn, hb => by
  unfold ZD at h;split at h
  ·rename_i hv
   obtain ⟨q1, q2, ⟨tt, q3⟩, q4, q5⟩ := Xr h hn hb;refine ⟨q1, q2, ⟨tt, q3⟩, fun u hu => ?_, fun x hx => ?_⟩
   ·rcases q4 u hu with q | ⟨g, q⟩
    ·exact .inl q
    ·exact .inr ⟨g, List.mem_cons_of_mem _ q⟩
   ·rcases List.mem_cons.1 hx with rfl | hx
    ·rw [q3]; unfold zx at hv ⊢; rw [List.map_append]; exact List.mem_append_left _ hv
    ·exact q5 x hx
  ·rename_i hv
   split at h
   ·cases h
   ·rename_i hbl
    have hn2 : (zx (r ++ [(v, ((i : Int), s))])).Nodup := by
     rw [xl, List.nodup_append];refine ⟨hn, by simp, fun a ha c hc e => ?_⟩;rw [List.mem_singleton] at hc;subst hc; subst e;exact hv ha
    obtain ⟨q1, q2, ⟨tt, q3⟩, q4, q5⟩ := Xr h hn2 (by rw [List.length_append, List.length_singleton]; omega);refine ⟨q1, q2, ⟨(v, ((i : Int), s)) :: tt, by rw [q3]; simp⟩, fun u hu => ?_, fun x hx => ?_⟩
    ·rcases q4 u hu with q | ⟨g, q⟩
     ·rw [xl, List.mem_append, List.mem_singleton] at q
      rcases q with q | q
      ·exact .inl q
      ·exact .inr ⟨s, by rw [q]; exact List.mem_cons_self⟩
     ·exact .inr ⟨g, List.mem_cons_of_mem _ q⟩
    ·rcases List.mem_cons.1 hx with rfl | hx
     ·rw [q3]; unfold zx; simp
     ·exact q5 x hx
theorem za1 {b i : Nat} : ∀ {l : List ((Nat × Nat) × Wd)} {r : List Ent}, ZD b i l r = none -> (zx r).Nodup -> ∃ L : List Wd, L.Nodup ∧ L.length = b + 1 ∧ ∀ v ∈ L, v ∈ zx r ∨ ∃ h, (h, v) ∈ l
 | [], r, h, hn => by cases h
 | (s, v) :: t, r, h, hn => by
  unfold ZD at h;split at h
  ·obtain ⟨L, q1, q2, q3⟩ := za1 h hn
   refine ⟨L, q1, q2, fun u hu => ?_⟩;rcases q3 u hu with q | ⟨g, q⟩
   ·exact .inl q
   ·exact .inr ⟨g, List.mem_cons_of_mem _ q⟩
  ·rename_i hv
   have hn2 : (zx (r ++ [(v, ((i : Int), s))])).Nodup := by
    rw [xl, List.nodup_append];refine ⟨hn, by simp, fun a ha c hc e => ?_⟩;rw [List.mem_singleton] at hc;subst hc; subst e;exact hv ha
   split at h
   ·rename_i hb
    refine ⟨zx r ++ [v], by rw [xl] at hn2; exact hn2, by rw [List.length_append, yi, hb]; rfl, fun u hu => ?_⟩;rw [List.mem_append, List.mem_singleton] at hu;rcases hu with hu | rfl
    ·exact .inl hu
    ·exact .inr ⟨s, List.mem_cons_self⟩
   ·obtain ⟨L, q1, q2, q3⟩ := za1 h hn2
    refine ⟨L, q1, q2, fun u hu => ?_⟩;rcases q3 u hu with q | ⟨g, q⟩
    ·rw [xl, List.mem_append, List.mem_singleton] at q
     rcases q with q | q
     ·exact .inl q
     ·exact .inr ⟨s, by rw [q]; exact List.mem_cons_self⟩
    ·exact .inr ⟨g, List.mem_cons_of_mem _ q⟩
structure zjj (R : List Rul) (w : Wd) (b i : Nat) (r : List Ent) : Prop where
 nodup : (zx r).Nodup
 len : r.length <= b
 start : w ∈ zx r
 reach : ∀ v ∈ zx r, Reach R w v
 closed : ∀ j, j < i -> j < r.length -> ∀ v, zf7 R (Zr r j) v -> v ∈ zx r
theorem zjj.inner {R : List Rul} {w : Wd} {b i : Nat} {r r' : List Ent} (h : zjj R w b i r) (hi : i < r.length) (hr : ZD b i (ZB R (Zr r i)) r = some r') : zjj R w b (i + 1) r' := by
 obtain ⟨q1, q2, ⟨t, rfl⟩, q4, q5⟩ := Xr hr h.nodup h.len;refine ⟨q1, q2, by unfold zx; rw [List.map_append]; exact List.mem_append_left _ h.start, fun v hv => ?_, fun j hj hjl v hs => ?_⟩
 ·rcases q4 v hv with q | q
  ·exact h.reach v q
  ·exact (h.reach _ (zap hi)).tail q
 ·by_cases e : j = i
  ·subst e
   rw [yF t hi] at hs;obtain ⟨g, hg⟩ := hs;exact q5 _ hg
  ·have hji : j < i := by omega
   rw [yF t (by omega)] at hs;have := h.closed j hji (by omega) v hs;unfold zx at this ⊢;rw [List.map_append];exact List.mem_append_left _ this
theorem zdY {R : List Rul} {w : Wd} {b : Nat} : ∀ (f i : Nat) (r r' : List Ent), f + i = b -> zjj R w b i r -> YW R b f i r = some r' -> (zx r').Nodup ∧ r'.length <= b ∧ ∀ v, v ∈ zx r' ↔ Reach R w v
 | 0, i, r, r', hf, hu, h => by
  cases h;refine ⟨hu.nodup, hu.len, fun v => ⟨hu.reach v, fun hv => ?_⟩⟩;induction hv with
  | refl => exact hu.start
  | tail _ hs ih =>
   obtain ⟨j, hj, rfl⟩ := zd1 ih;exact hu.closed j (by have := hu.len; omega) hj _ hs
 | f + 1, i, r, r', hf, hu, h => by
  unfold YW at h;split at h
  ·rename_i hi
   rw [Option.bind_eq_some_iff] at h;obtain ⟨r1, h1, h2⟩ := h;exact zdY f (i + 1) r1 r' (by omega) (hu.inner hi h1) h2
  ·rename_i hi
   cases h;refine ⟨hu.nodup, hu.len, fun v => ⟨hu.reach v, fun hv => ?_⟩⟩;induction hv with
   | refl => exact hu.start
   | tail _ hs ih =>
    obtain ⟨j, hj, rfl⟩ := zd1 ih;exact hu.closed j (by omega) hj _ hs
theorem zdZ {R : List Rul} {w : Wd} {b : Nat} : ∀ (f i : Nat) (r : List Ent), zjj R w b i r -> YW R b f i r = none -> ∃ L : List Wd, L.Nodup ∧ L.length = b + 1 ∧ ∀ v ∈ L, Reach R w v
 | 0, i, r, hu, h => by cases h
 | f + 1, i, r, hu, h => by
  unfold YW at h;split at h
  ·rename_i hi
   rw [Option.bind_eq_none_iff] at h;cases h1 : ZD b i (ZB R (Zr r i)) r with
   | none =>
    obtain ⟨L, q1, q2, q3⟩ := za1 h1 hu.nodup;refine ⟨L, q1, q2, fun v hv => ?_⟩;rcases q3 v hv with q | q
    ·exact hu.reach v q
    ·exact (hu.reach _ (zap hi)).tail q
   | some r1 => exact zdZ f (i + 1) r1 (hu.inner hi h1) (h r1 h1)
  ·cases h
theorem zcJ (R : List Rul) (w : Wd) (b : Nat) (hb : 1 <= b) : zjj R w b 0 (Xy w) :=
 ⟨by simp [Xy, zx], by simpa [Xy] using hb, by simp [Xy, zx], fun v hv => by simp [Xy, zx] at hv; subst hv; exact .refl, fun j hj => by omega⟩
theorem zbl {R : List Rul} {w : Wd} {b : Nat} {r : List Ent} (hb : 1 <= b) (h : zbO R w b = some r) : (zx r).Nodup ∧ r.length <= b ∧ ∀ v, v ∈ zx r ↔ Reach R w v :=
 zdY b 0 _ r (by omega) (zcJ R w b hb) h
theorem zlw {R : List Rul} {w : Wd} {b : Nat} (hb : 1 <= b) (h : zbO R w b = none) : ∃ L : List Wd, L.Nodup ∧ L.length = b + 1 ∧ ∀ v ∈ L, Reach R w v :=
 zdZ b 0 _ (zcJ R w b hb) h
theorem zaw {α : Type} [DecidableEq α] : ∀ {l m : List α}, l.Nodup -> (∀ x ∈ l, x ∈ m) -> l.length <= m.length
 | [], m, _, _ => by simp
 | a :: l, m, hn, h => by
  rw [List.nodup_cons] at hn;have ha : a ∈ m := h a List.mem_cons_self;have := zaw (l := l) (m := m.erase a) hn.2 (fun x hx => (List.mem_erase_of_ne (fun e => hn.1 (by rw [<- e]; exact hx))).2 (h x (List.mem_cons_of_mem _ hx)));rw [List.length_erase_of_mem ha] at this;have := List.length_pos_of_mem ha;simp only [List.length_cons];omega
theorem znG {R : List Rul} {w : Wd} {b : Nat} (hb : 1 <= b) (M : List Wd) (hM : M.length <= b) (h : ∀ v, Reach R w v -> v ∈ M) : ∃ r, zbO R w b = some r := by
 cases hr : zbO R w b with
 | some r => exact ⟨r, rfl⟩
 | none =>
  obtain ⟨L, q1, q2, q3⟩ := zlw hb hr;have := zaw q1 (fun x hx => h x (q3 x hx));omega
theorem xZ {R : List Rul} {u v : Wd} : zf7 R u v ↔ ∃ r ∈ R, Zn r = true ∧ ∃ a, a < zt u ∧ xq r.1 u a = true ∧ v = ZJ u a (zt r.1) r.2 := by
 unfold zf7 ZB;constructor
 ·rintro ⟨h, hh⟩
  rw [List.mem_map] at hh;obtain ⟨⟨a, k⟩, h1, h2⟩ := hh;cases h2;obtain ⟨g1, g2, g3⟩ := Xd.1 h1;rw [yh] at g2;rw [zbr] at g3;cases hc : Zn (ZP R k) with
  | false =>
   rw [hc] at g3;have := (YB ((Yb _ _ _).1 g3).1).1;simp at this
  | true =>
   rw [hc, if_pos rfl] at g3;refine ⟨ZP R k, ?_, hc, a, g1, g3, rfl⟩;unfold ZP;rw [List.getD_eq_getElem?_getD, List.getElem?_eq_getElem g2];exact List.getElem_mem g2
 ·rintro ⟨r, hr, hc, a, ha, hs, rfl⟩
  obtain ⟨k, hk, rfl⟩ := List.getElem_of_mem hr;have hru : ZP R k = R[k] := by unfold ZP; rw [List.getD_eq_getElem?_getD, List.getElem?_eq_getElem hk]; rfl
  refine ⟨(a, k), List.mem_map.2 ⟨(a, k), Xd.2 ⟨ha, by rw [yh]; exact hk, ?_⟩, ?_⟩⟩
  ·rw [zbr, hru, hc, if_pos rfl]; exact hs
  ·unfold zdt; rw [hru]
theorem Reach.mono {R R' : List Rul} (h : ∀ r ∈ R, r ∈ R') {u v : Wd} (hr : Reach R u v) : Reach R' u v := by
 induction hr with
 | refl => exact .refl
 | tail _ s ih =>
  obtain ⟨r, q1, q2⟩ := xZ.1 s;exact ih.tail (xZ.2 ⟨r, h r q1, q2⟩)
theorem zek {R : List Rul} {u v : Wd} (hu : Zm u = true) (h : zf7 R u v) : Zm v = true ∧ v.length <= u.length := by
 obtain ⟨r, _, h2, a, _, h4, rfl⟩ := xZ.1 h;obtain ⟨g1, g2, g3⟩ := (Yb _ _ _).1 h4;obtain ⟨k1, k2, k3⟩ := (xi _).1 h2;have g4 := YB g1;have g5 := YB k2;have hle : a + zt r.1 <= zt u := by unfold zt at g2 ⊢; omega
 obtain ⟨q1, q2⟩ := zhu hu k2 hle k3;refine ⟨q1, ?_⟩;rw [q2];unfold zt at k3 hle ⊢;omega
theorem zfh {R : List Rul} {w v : Wd} (hw : Zm w = true) (h : Reach R w v) : Zm v = true ∧ v.length <= w.length := by
 induction h with
 | refl => exact ⟨hw, Nat.le_refl _⟩
 | tail _ s ih =>
  obtain ⟨q1, q2⟩ := zek ih.1 s;exact ⟨q1, Nat.le_trans q2 ih.2⟩
def xI (r : List Ent) (i : Nat) : Ent := r.getD i ([], (0, (0, 0)))
theorem zaf {r : List Ent} (t : List Ent) {i : Nat} (h : i < r.length) : xI (r ++ t) i = xI r i := by
 unfold xI;rw [List.getD_eq_getElem?_getD, List.getElem?_append_left h, <- List.getD_eq_getElem?_getD]
theorem zdK (r : List Ent) (i : Nat) : Zr r i = (xI r i).1 := rfl
structure zlb (R : List Rul) (w : Wd) (r : List Ent) : Prop where
 first : xI r 0 = (w, (-1, (0, 0)))
 pos : 0 < r.length
 back : ∀ j, 0 < j -> j < r.length -> ∃ i : Nat, i < j ∧ (xI r j).2.1 = (i : Int) ∧ ((xI r j).2.2, Zr r j) ∈ ZB R (Zr r i)
theorem zlb.inner {R : List Rul} {w : Wd} {b i : Nat} {u : Wd} : ∀ {l : List ((Nat × Nat) × Wd)} {r r' : List Ent}, (∀ x ∈ l, x ∈ ZB R u) -> zlb R w r -> i < r.length -> Zr r i = u -> ZD b i l r = some r' -> zlb R w r'
 | [], r, r', _, h, _, _, he => by cases he; exact h
 | (s, v) :: t, r, r', hl, h, hi, hu, he => by
  unfold ZD at he;split at he
  ·exact zlb.inner (fun x hx => hl x (List.mem_cons_of_mem _ hx)) h hi hu he
  ·split at he
   ·cases he
   ·refine zlb.inner (fun x hx => hl x (List.mem_cons_of_mem _ hx)) ?_ (by rw [List.length_append]; omega) (by rw [yF _ hi]; exact hu) he
    have hlen : (r ++ [(v, ((i : Int), s))]).length = r.length + 1 := by simp
    refine ⟨by rw [zaf _ h.pos]; exact h.first, by omega, fun j hj hjl => ?_⟩;rw [hlen] at hjl;by_cases e : j = r.length
    ·subst e
     have ee : xI (r ++ [(v, ((i : Int), s))]) r.length = (v, ((i : Int), s)) := by
      unfold xI;rw [List.getD_eq_getElem?_getD, List.getElem?_append_right (Nat.le_refl _), Nat.sub_self]; rfl
     refine ⟨i, hi, by rw [ee], ?_⟩;rw [yF _ hi, hu, zdK, ee];exact hl _ List.mem_cons_self
    ·obtain ⟨k, q1, q2, q3⟩ := h.back j hj (by omega)
     refine ⟨k, q1, ?_, ?_⟩
     ·rw [zaf _ (by omega)]; exact q2
     ·rw [zaf _ (by omega), yF _ (by omega), yF _ (by omega)]; exact q3
theorem zd6 {R : List Rul} {w : Wd} {b : Nat} : ∀ (f i : Nat) (r r' : List Ent), zlb R w r -> YW R b f i r = some r' -> zlb R w r'
 | 0, i, r, r', h, he => by cases he; exact h
 | f + 1, i, r, r', h, he => by
  unfold YW at he;split at he
  ·rename_i hi
   rw [Option.bind_eq_some_iff] at he;obtain ⟨r1, h1, h2⟩ := he;exact zd6 f (i + 1) r1 r' (h.inner (fun x hx => hx) hi rfl h1) h2
  ·cases he; exact h
theorem zhC {R : List Rul} {w : Wd} {b : Nat} {r : List Ent} (h : zbO R w b = some r) : zlb R w r :=
 zd6 b 0 _ r ⟨rfl, by simp [Xy], fun j hj hjl => by simp [Xy] at hjl; omega⟩ h
def zcX (r : List Ent) : Nat -> Nat -> List (Nat × Nat)
 | 0, _ => []
 | f + 1, i => if i = 0 then [] else zcX r f (xI r i).2.1.toNat ++ [(xI r i).2.2]
def YV (r : List Ent) (i : Nat) : List (Nat × Nat) := zcX r i i
theorem zgP {R : List Rul} {w : Wd} {r : List Ent} (h : zlb R w r) : ∀ (f i : Nat), i < r.length -> i <= f -> zcX r f i = YV r i := by
 intro f;induction f using Nat.strongRecOn with
 | _ f ih =>
  intro i hi hf;rcases Nat.eq_zero_or_pos i with rfl | hp
  ·cases f with
   | zero => rfl
   | succ f => simp [zcX, YV]
  ·obtain ⟨g, rfl⟩ : ∃ g, f = g + 1 := ⟨f - 1, by omega⟩
   obtain ⟨m, rfl⟩ : ∃ m, i = m + 1 := ⟨i - 1, by omega⟩;obtain ⟨k, q1, q2, _⟩ := h.back (m + 1) hp hi;unfold YV;rw [zcX, zcX, if_neg (by omega), if_neg (by omega), q2, Int.toNat_natCast, ih g (by omega) k (by omega) (by omega)];by_cases e : m < g
   ·rw [ih m (by omega) k (by omega) (by omega)]
   ·obtain rfl : g = m := by omega
    rw [ih g (by omega) k (by omega) (by omega)]
theorem zfo (r : List Ent) : YV r 0 = [] := rfl
theorem zfp {R : List Rul} {w : Wd} {r : List Ent} (h : zlb R w r) {i k : Nat} (hi : i < r.length) (hp : 0 < i) (hk : (xI r i).2.1 = (k : Int)) (hki : k < i) : YV r i = YV r k ++ [(xI r i).2.2] := by
 obtain ⟨m, rfl⟩ : ∃ m, i = m + 1 := ⟨i - 1, by omega⟩;unfold YV;rw [zcX, if_neg (by omega), hk, Int.toNat_natCast, zgP h m k (by omega) (by omega)]; rfl
def zbI (R : List Rul) (w : Wd) : List (Nat × Nat) -> Option Wd
 | [] => some w
 | h :: t => if h ∈ zgc (yL R) w then zbI R (zdt R w h) t else none
theorem zb7 (R : List Rul) : ∀ (l m : List (Nat × Nat)) (w : Wd), zbI R w (l ++ m) = (zbI R w l).bind (fun v => zbI R v m)
 | [], _, _ => rfl
 | h :: t, m, w => by
  simp only [List.cons_append, zbI];split
  ·exact zb7 R t m _
  ·rfl
theorem zdW {R : List Rul} {w : Wd} {r : List Ent} (h : zlb R w r) : ∀ i, i < r.length -> zbI R w (YV r i) = some (Zr r i) ∧ (YV r i).length <= i := by
 intro i;induction i using Nat.strongRecOn with
 | _ i ih =>
  intro hi;rcases Nat.eq_zero_or_pos i with rfl | hp
  ·rw [zfo]
   refine ⟨?_, Nat.le_refl _⟩;rw [zdK, h.first]; rfl
  ·obtain ⟨k, q1, q2, q3⟩ := h.back i hp hi
   obtain ⟨g1, g2⟩ := ih k q1 (by omega);rw [zfp h hi hp q2 q1];refine ⟨?_, by rw [List.length_append, List.length_singleton]; omega⟩;rw [zb7, g1];unfold ZB at q3;rw [List.mem_map] at q3;obtain ⟨x, hx, e⟩ := q3;have e1 := congrArg Prod.fst e;have e2 := congrArg Prod.snd e;simp only at e1 e2;subst e1;show zbI R (Zr r k) [_] = _;unfold zbI;rw [if_pos hx, <- e2]; rfl
end Go.Proofs.YthdfplafihmejaaGreat
