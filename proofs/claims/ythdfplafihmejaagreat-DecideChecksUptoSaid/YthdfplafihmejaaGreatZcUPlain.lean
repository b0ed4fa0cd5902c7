/-
  What is accepted, in plain Lean. What is accepted without one that isn't, in plain Lean. What the laws of what is accepted lean on, in plain Lean.
-/
import Derived.Test.YthdfplafihmejaaGreatZcCLike
import Derived.Test.YthdfplafihmejaaGreatZcCCert1
namespace Go.Proofs.YthdfplafihmejaaGreat
open Go.RowKit
theorem zdb {w v : Wd} : ∀ (f i : Nat), zbs w v i f = -1 -> ∀ a, i <= a -> a < i + f -> ¬ (w.drop (2 * a)).take v.length = v
 | 0, i, _, a, h1, h2 => by omega
 | f + 1, i, h, a, h1, h2 => by
  unfold zbs at h;split at h
  ·omega
  ·rename_i hn
   by_cases e : a = i
   ·subst e; exact hn
   ·exact zdb f (i + 1) h a (by omega) (by omega)
theorem zi4 {w v : Wd} (h : YN w v 0 < 0) {a : Nat} : xq v w a = false := by
 rw [Bool.eq_false_iff];intro hs;obtain ⟨h1, h2, h3⟩ := (Yb _ _ _).1 hs;have hm : zt v = v.length / 2 := rfl
 have h0 : YN w v 0 = -1 := by
  rcases zdc w v (zt w + 1 - zt v - 0) 0 with q | q
  ·exact q
  ·unfold YN at h; omega
 exact zdb _ _ h0 a (Nat.zero_le _) (by omega) h3
def zaI (R : List zA) (n : Nat) (L : List ByteArray) : Bool := (R.drop n).any fun r => Zn (Zo r) && L.any fun w => decide (0 <= YN w.data.toList r.1.data.toList 0)
structure zcp (R : List zA) (b : Int) (s : ByteArray) (L : List ByteArray) : Prop where
 err : zQ R s b = 0
 mem : ∀ t : ByteArray, t ∈ L ↔ Reach (R.map Zo) s.data.toList t.data.toList
theorem zkK (R : List zA) (n : Nat) : (R.take n).map Zo = (R.map Zo).take n := List.map_take ..
theorem zgw {R : List zA} {n : Nat} {s : ByteArray} {L : List ByteArray} (hm : ∀ t : ByteArray, t ∈ L ↔ Reach ((R.take n).map Zo) s.data.toList t.data.toList) (h : zaI R n L = false) {v : Wd} (hv : Reach (R.map Zo) s.data.toList v) : Reach ((R.take n).map Zo) s.data.toList v := by
 induction hv with
 | refl => exact .refl
 | @tail u v _ st ih =>
  obtain ⟨r, hr, hc, a, ha, hs, e⟩ := xZ.1 st;refine ih.tail (xZ.2 ⟨r, ?_, hc, a, ha, hs, e⟩);obtain ⟨q, hq, rfl⟩ := List.mem_map.1 hr;rw [<- List.take_append_drop n R] at hq;rcases List.mem_append.1 hq with h1 | h1
  ·exact List.mem_map_of_mem h1
  ·exfalso
   have hu : bar u ∈ L := (hm _).2 (by rw [yI]; exact ih);have h2 := List.any_eq_false.1 h q h1;rw [hc, Bool.true_and, Bool.not_eq_true] at h2;have h3 := List.any_eq_false.1 h2 _ hu;rw [yI] at h3;have h4 := zi4 (w := u) (v := q.1.data.toList) (a := a) (by simpa using h3);rw [show q.1.data.toList = (Zo q).1 from rfl, hs] at h4;cases h4
theorem zdQ {R : List zA} {b : Int} {s : ByteArray} (h : zQ R s b = 0) : ∃ r, zgG R s b = some r ∧ 1 <= b ∧ ∀ v, v ∈ zx r ↔ Reach (R.map Zo) s.data.toList v := by
 obtain ⟨h1, r, hr⟩ := Zz h;obtain ⟨_, hb, _, _⟩ := yD h1;exact ⟨r, hr, hb, (zbl (by omega) hr).2.2⟩
theorem zcp.keep {R : List zA} {n : Nat} {b : Int} {s : ByteArray} {L : List ByteArray} (h : zcp (R.take n) b s L) (hR : R.length <= 400) (hs : zaI R n L = false) : zcp R b s L := by
 have key : ∀ v, Reach (R.map Zo) s.data.toList v ↔ Reach ((R.take n).map Zo) s.data.toList v := fun v =>
  ⟨fun q => zgw h.mem hs q, fun q => q.mono (fun x hx => by rw [zkK] at hx; exact List.mem_of_mem_take hx)⟩
 refine ⟨?_, fun t => by rw [h.mem, key]⟩;obtain ⟨h1, r, hr⟩ := Zz h.err;obtain ⟨hm, hb, hb2, _⟩ := yD h1;obtain ⟨q1, q2, q3⟩ := zbl (by omega) hr;obtain ⟨r', hr'⟩ := znG (R := R.map Zo) (w := s.data.toList) (b := b.toNat) (by omega) (zx r) (by rw [yi]; exact q2) (fun v hv => (q3 v).2 ((key v).1 hv))
 have ha : Yx (Zm s.data.toList) b R.length = 0 := by
  unfold Yx;rw [if_pos hm, if_neg (by omega), if_neg (by omega)]
 unfold zQ;rw [if_pos ha, if_neg (by unfold zgG; rw [hr']; simp)]
theorem zbP {R : List zA} {b : Int} {s : ByteArray} (h : zQ R s b = 0) : zcp R b s (zbL R s b) := by
 obtain ⟨r, hr, hb, hq⟩ := zdQ h;refine ⟨h, fun t => ?_⟩;unfold zbL zga;rw [if_pos h, hr, <- hq];show t ∈ (zx r).map bar ↔ _;rw [List.mem_map];constructor
 ·rintro ⟨u, hu, rfl⟩; rw [yI]; exact hu
 ·exact fun q => ⟨_, q, rfl⟩
theorem zju {R : List zA} {b : Int} {s t : ByteArray} (h : zQ R s b = 0) : zci R s t b = true ↔ Reach (R.map Zo) s.data.toList t.data.toList := by
 obtain ⟨r, hr, hb, hq⟩ := zdQ h;unfold zci zga;rw [if_pos h, hr, <- hq, decide_eq_true_iff]; rfl
theorem zcp.tell {R : List zA} {b : Int} {s t : ByteArray} {L : List ByteArray} (h : zcp R b s L) : decide (t ∈ L) = zci R s t b := by
 rw [Bool.eq_iff_iff, decide_eq_true_iff, zju h.err, h.mem]
def ZE (c : zn) : List zA := c.fr.map fun w => (w, c.sp)
def zaj (R : List zA) (b : Int) (t : ByteArray) : List ByteArray -> Bool × Int
 | [] => (true, 0)
 | w :: l => if zQ R w b = 0 then (if zci R w t b = true then zaj R b t l else (false, 0)) else (false, zQ R w b)
def xE (R : List zA) (b : Int) (c : zn) : Bool × Int := zaj R b (Zw c.sg) c.fr
theorem zh0 {R : List zA} {b : Int} {t : ByteArray} : ∀ {l : List ByteArray}, zaj R b t l = (true, 0) ↔ ∀ w ∈ l, zQ R w b = 0 ∧ zci R w t b = true
 | [] => by simp [zaj]
 | w :: l => by
  unfold zaj;by_cases h1 : zQ R w b = 0
  ·rw [if_pos h1]
   by_cases h2 : zci R w t b = true
   ·rw [if_pos h2, zh0 (l := l)]
    simp [h1, h2]
   ·rw [if_neg h2]
    simp [h1, h2]
  ·rw [if_neg h1]
   simp [h1]
structure ASt where
 order : List Nat
 rules : List zA
def zaT (C : List zn) (b : Int) (s : ASt) (i : Nat) : Except Int ASt :=
 if i ∈ s.order then .ok s else
 match C[i]? with
 | none => .ok s
 | some c => if (xE s.rules b c).2 = 0 then (if (xE s.rules b c).1 = true then .ok ⟨s.order ++ [i], s.rules ++ ZE c⟩ else .ok s) else .error (xE s.rules b c).2
def xA (C : List zn) (b : Int) (s : ASt) : Nat -> Except Int ASt
 | 0 => .ok s
 | n + 1 => match xA C b s n with
  | .error e => .error e
  | .ok s' => zaT C b s' n
def zis (C : List zn) (b : Int) : Nat -> ASt -> Except Int ASt
 | 0, s => .ok s
 | f + 1, s => match xA C b s C.length with
  | .error e => .error e
  | .ok s' => if s'.order.length = s.order.length then .ok s' else zis C b f s'
def yd (C : List zn) : Nat := (C.map fun c => c.fr.length).sum
def zdx (n : Nat) (C : List zn) (b : Int) : Int := if C.all ZG = true then (if 400 < n + yd C then 3 else if b < 1 ∨ 5000 < b then 1 else 0) else 2
def Zj (R : List zA) (C : List zn) (b : Int) : Except Int ASt :=
 if zdx R.length C b = 0 then zis C b (C.length + 1) ⟨[], R⟩ else .error (zdx R.length C b)
def zU (C : List zn) (l : List Nat) : List zA := l.flatMap fun i => match C[i]? with
 | some c => ZE c
 | none => []
theorem XU {C : List zn} {l : List Nat} {i : Nat} {c : zn} (h : C[i]? = some c) : zU C (l ++ [i]) = zU C l ++ ZE c := by
 unfold zU;rw [List.flatMap_append, List.flatMap_cons, List.flatMap_nil, List.append_nil];simp only [h]
structure zaP (R : List zA) (C : List zn) (b : Int) (s : ASt) : Prop where
 nd : s.order.Nodup
 lt : ∀ i ∈ s.order, i < C.length
 rules : s.rules = R ++ zU C s.order
 just : ∀ (k : Nat) i c, s.order[k]? = some i -> C[i]? = some c -> xE (R ++ zU C (s.order.take k)) b c = (true, 0)
theorem zaP.start (R : List zA) (C : List zn) (b : Int) : zaP R C b ⟨[], R⟩ := ⟨List.nodup_nil, (fun i h => by cases h), (by simp [zU]), (fun k i c h => by simp at h)⟩
theorem zaP.step {R : List zA} {C : List zn} {b : Int} {s s' : ASt} (h : zaP R C b s) {i : Nat} (hs : zaT C b s i = .ok s') : zaP R C b s' ∧ s.order <+: s'.order ∧ (s' = s -> i ∉ s.order -> ∀ c, C[i]? = some c -> xE s.rules b c = (false, 0)) := by
 unfold zaT at hs;by_cases hi : i ∈ s.order
 ·rw [if_pos hi] at hs; cases hs
  exact ⟨h, List.prefix_refl _, fun _ q => absurd hi q⟩
 ·rw [if_neg hi] at hs
  cases hc : C[i]? with
  | none => rw [hc] at hs; cases hs; exact ⟨h, List.prefix_refl _, fun _ _ c q => by cases q⟩
  | some c =>
   rw [hc] at hs;simp only at hs;by_cases h2 : (xE s.rules b c).2 = 0
   ·rw [if_pos h2] at hs
    by_cases h1 : (xE s.rules b c).1 = true
    ·rw [if_pos h1] at hs
     cases hs;refine ⟨⟨?_, ?_, ?_, ?_⟩, List.prefix_append _ _, fun e => ?_⟩
     ·show (s.order ++ [i]).Nodup
      rw [List.nodup_append];exact ⟨h.nd, by simp, fun a ha b hb => by rw [List.mem_singleton] at hb; subst hb; exact fun e => hi (e ▸ ha)⟩
     ·intro j hj
      rcases List.mem_append.1 hj with q | q
      ·exact h.lt j q
      ·rw [List.mem_singleton] at q; subst q; exact (List.getElem?_eq_some_iff.1 hc).1
     ·show s.rules ++ ZE c = R ++ zU C (s.order ++ [i])
      rw [XU hc, h.rules, List.append_assoc]
     ·intro k j d hj hd
      have hj' : (s.order ++ [i])[k]? = some j := hj;show xE (R ++ zU C ((s.order ++ [i]).take k)) b d = _;rcases Nat.lt_or_ge k s.order.length with q | q
      ·rw [List.getElem?_append_left q] at hj'
       rw [List.take_append_of_le_length (by omega)];exact h.just k j d hj' hd
      ·rw [List.getElem?_append_right q] at hj'
       have hk : k - s.order.length < 1 := (List.getElem?_eq_some_iff.1 hj').1;have hk2 : k = s.order.length := by omega
       subst hk2;simp at hj';subst hj';rw [hc] at hd; cases hd;rw [List.take_left' rfl, <- h.rules];exact Prod.ext h1 h2
     ·have := congrArg (fun s => s.order.length) e
      simp at this
    ·rw [if_neg h1] at hs
     cases hs;exact ⟨h, List.prefix_refl _, fun _ _ d q => by cases q; exact Prod.ext (by simpa using h1) h2⟩
   ·rw [if_neg h2] at hs; cases hs
theorem zaP.pass {R : List zA} {C : List zn} {b : Int} {s : ASt} (h : zaP R C b s) : ∀ (n : Nat) {s' : ASt}, xA C b s n = .ok s' -> zaP R C b s' ∧ s.order <+: s'.order ∧ (s'.order.length = s.order.length -> s' = s ∧ ∀ i, i < n -> i ∉ s.order -> ∀ c, C[i]? = some c -> xE s.rules b c = (false, 0))
 | 0, s', hs => by cases hs; exact ⟨h, List.prefix_refl _, fun _ => ⟨rfl, fun i hi => by omega⟩⟩
 | n + 1, s', hs => by
  unfold xA at hs;cases hp : xA C b s n with
  | error e => rw [hp] at hs; cases hs
  | ok u =>
   rw [hp] at hs;obtain ⟨a1, a2, a3⟩ := h.pass n hp;obtain ⟨b1, b2, b3⟩ := a1.step hs;refine ⟨b1, a2.trans b2, fun hl => ?_⟩;have e1 := a2.length_le;have e2 := b2.length_le;obtain ⟨rfl, q⟩ := a3 (by omega)
   have e3 : s' = u := by
    have ho : s'.order = u.order := (b2.eq_of_length (by omega)).symm;have hr : s'.rules = u.rules := by rw [b1.rules, a1.rules, ho]
    cases s'; cases u; simp at ho hr; simp [ho, hr]
   refine ⟨e3, fun i hi hn c hc => ?_⟩;by_cases hin : i = n
   ·subst hin; exact b3 e3 hn c hc
   ·exact q i (by omega) hn c hc
structure zod (R : List zA) (C : List zn) (b : Int) (s : ASt) : Prop where
 inv : zaP R C b s
 full : ∀ i c, C[i]? = some c -> i ∉ s.order -> xE s.rules b c = (false, 0)
theorem Yi {l : List Nat} (h : l.Nodup) {n : Nat} (hl : ∀ i ∈ l, i < n) : l.length <= n := by
 have := zaw (l := l) (m := List.range n) h (fun x hx => List.mem_range.2 (hl x hx));rwa [List.length_range] at this
theorem zjL {R : List zA} {C : List zn} {b : Int} : ∀ (f : Nat) {s s' : ASt}, zaP R C b s -> C.length < f + s.order.length -> zis C b f s = .ok s' -> zod R C b s'
 | 0, s, s', h, hf, _ => by have := Yi h.nd h.lt; omega
 | f + 1, s, s', h, hf, hs => by
  unfold zis at hs;cases hp : xA C b s C.length with
  | error e => rw [hp] at hs; cases hs
  | ok u =>
   rw [hp] at hs;obtain ⟨a1, a2, a3⟩ := h.pass _ hp;simp only at hs;by_cases he : u.order.length = s.order.length
   ·rw [if_pos he] at hs
    cases hs;obtain ⟨rfl, q⟩ := a3 he;exact ⟨h, fun i c hc hn => q i (List.getElem?_eq_some_iff.1 hc).1 hn c hc⟩
   ·rw [if_neg he] at hs
    have := a2.length_le;exact zjL f a1 (by omega) hs
theorem zaC {R : List zA} {C : List zn} {b : Int} {s : ASt} (h : Zj R C b = .ok s) : zod R C b s ∧ zdx R.length C b = 0 := by
 unfold Zj at h;split at h
 ·exact ⟨zjL _ (zaP.start R C b) (by simp) h, by assumption⟩
 ·cases h
def up (k j : Nat) : Nat := if j < k then j else j + 1
structure zox (k : Nat) (s t : ASt) : Prop where
 rules : t.rules = s.rules
 order : s.order = t.order.map (up k)
def noC : zn := ⟨0, 0, ⟨#[]⟩, [], 0, 0, 0⟩
theorem zdl {R : List zA} {C : List zn} {b : Int} {s : ASt} (h : Zj R C b = .ok s) : C.all ZG = true ∧ R.length + yd C <= 400 ∧ 1 <= b ∧ b <= 5000 := by
 have hr := (zaC h).2;unfold zdx at hr;split at hr
 ·split at hr
  ·cases hr
  ·split at hr
   ·cases hr
   ·refine ⟨by assumption, by omega, by omega, by omega⟩
 ·cases hr
theorem zjO {C : List zn} : ∀ {l : List Nat}, l.Nodup -> (∀ i ∈ l, i < C.length) -> (zU C l).length <= yd C := by
 have key : ∀ (n : Nat) {l : List Nat} {C : List zn}, C.length = n -> l.Nodup -> (∀ i ∈ l, i < C.length) -> (zU C l).length <= yd C := by
  intro n;induction n with
  | zero =>
   intro l C hn hl hi;cases l with
   | nil => exact Nat.zero_le _
   | cons x l => have := hi x List.mem_cons_self; omega
  | succ n ih =>
   intro l C hn hl hi;obtain ⟨D, c, rfl⟩ : ∃ D c, C = D ++ [c] := ⟨C.dropLast, C.getLast (by intro e; subst e; simp at hn), (List.dropLast_concat_getLast _).symm⟩;have hD : D.length = n := by simpa using hn
   have hneed : yd (D ++ [c]) = yd D + c.fr.length := by unfold yd; simp
   have h1 : ∀ m : List Nat, (∀ i ∈ m, i < D.length) -> zU (D ++ [c]) m = zU D m := by
    intro m hm;unfold zU;induction m with
    | nil => rfl
    | cons x m ihm =>
     rw [List.flatMap_cons, List.flatMap_cons, ihm (fun i hi => hm i (List.mem_cons_of_mem _ hi)), List.getElem?_append_left (hm x List.mem_cons_self)]
   have hsum : ∀ m : List Nat, m.Nodup -> (zU (D ++ [c]) m).length = (zU (D ++ [c]) (m.erase n)).length + (if n ∈ m then c.fr.length else 0) := by
    intro m hm;induction m with
    | nil => simp [zU]
    | cons x m ihm =>
     rw [List.nodup_cons] at hm;by_cases e : x = n
     ·subst e
      rw [List.erase_cons_head, if_pos List.mem_cons_self];unfold zU;rw [List.flatMap_cons, List.length_append, List.getElem?_append_right (by omega), show x - D.length = 0 by omega];simp [ZE]; omega
     ·rw [List.erase_cons_tail (by simpa using e)]
      have := ihm hm.2;have e2 : (n ∈ x :: m) ↔ n ∈ m := by simp [Ne.symm e]
      unfold zU at this ⊢;rw [List.flatMap_cons, List.flatMap_cons, List.length_append, List.length_append, this];simp only [e2]; omega
   rw [hsum l hl, hneed]
   have h2 : ∀ i ∈ l.erase n, i < D.length := fun i q => by
    have q1 := hi i (List.mem_of_mem_erase q)
    have q2 : i ≠ n := fun e => by
     subst e;exact (List.Nodup.not_mem_erase hl) q
    rw [List.length_append, List.length_singleton] at q1;omega
   rw [h1 _ h2];have := ih (C := D) hD (hl.erase n) h2;split <;> omega
 exact fun {l} h1 h2 => key _ rfl h1 h2
end Go.Proofs.YthdfplafihmejaaGreat
