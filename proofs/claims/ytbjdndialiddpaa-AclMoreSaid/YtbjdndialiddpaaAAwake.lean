/-
  Layer 16: awake.
-/
import Derived.Test.YtbjdndialiddpaaALaw2
import Derived.Test.YtbjdndialiddpaaRArgs
namespace Go.Proofs.Ytbjdndialiddpaa
open Go.RowKit Go.Maps

theorem version_any (w : World) (b : Nat) (ty : TypeId) (L : List BEnt) (ver : Nat) (G : Nat → Prop) (hl : ListAt w b ty G L ver) :
    Calls Try.prog 18 #[.pointer (some ⟨b, 0, none⟩)] w fun e w' => e = .returned (.int .i64 (ver : Int)) ∧ w = w' := by
  obtain ⟨es, h1, _⟩ := hl.obj
  have c1 : w.cell? ⟨b, 1, none⟩ = some (.int .i64 (ver : Int)) := cell_of h1 rfl
  clear hl h1
  go_enter Try.func18, Try.ntmps18
  go_wp2
  go_ret
  exact ⟨rfl, rfl⟩
theorem setAt_lit (w : World) (l : List ByteArray) (hs : ∀ x ∈ l, x.size ≤ 100) (hl : l.length ≤ 100) : SetAt (w.alloc (.cells (wcells l).toArray 40)) (.slice (some ⟨w.heap.size, 0, none⟩) l.length l.length) (fun k => k = w.heap.size) l :=
  ⟨⟨_, l.length, rfl, by unfold maxLen; omega, fun j x hj => ⟨_, 0, rfl, rfl, by
      rw [Nat.zero_add]
      refine cell_of (obj_alloc_new _ _) ?_
      rw [List.getElem?_toArray]
      unfold wcells
      rw [List.getElem?_map, hj]; rfl, by have := hs x (List.mem_of_getElem? hj); unfold maxLen; omega⟩⟩, fun n c e => by cases e⟩
theorem entsAt_lit (w : World) (x : BEnt) (sv : Value) (G : Nat → Prop) (hs : SetAt w sv G x.2) : EntsAt (w.alloc (.cells #[.int .i64 x.1, sv] 36)) (.slice (some ⟨w.heap.size, 0, none⟩) 1 1) (fun k => G k ∨ k = w.heap.size) [x] := by
  refine ⟨[(x.1, sv)], _, 1, rfl, Nat.le_refl _, by unfold maxLen; omega, (fun e => by cases e), ⟨rfl, fun j e y h1 h2 => ?_⟩, fun j u hj => ⟨w.heap.size, 0, rfl, .inr rfl, ?_⟩⟩
  · have hl := (List.getElem?_eq_some_iff.1 h1).1
    obtain rfl : j = 0 := by simp at hl; omega
    simp at h1 h2
    subst h1 h2
    exact ⟨rfl, (hs.chg (chg_alloc (fun _ => False) w _) (fun _ _ e => e)).up (fun _ h => .inl h)⟩
  · rw [Nat.zero_add]
    refine cell_of (obj_alloc_new _ _) ?_
    show ([Value.int .i64 x.1, sv].toArray)[j]? = some u
    rw [List.getElem?_toArray]
    exact hj
theorem setAt_l2 (w : World) (a b : ByteArray) (hs : ∀ x ∈ [a, b], x.size ≤ 100) : SetAt (w.alloc (.cells #[.string a, .string b] 40)) (.slice (some ⟨w.heap.size, 0, none⟩) 2 2) (fun k => k = w.heap.size) [a, b] := setAt_lit w [a, b] hs (by simp)
theorem setAt_l1 (w : World) (a : ByteArray) (hs : ∀ x ∈ [a], x.size ≤ 100) : SetAt (w.alloc (.cells #[.string a] 40)) (.slice (some ⟨w.heap.size, 0, none⟩) 1 1) (fun k => k = w.heap.size) [a] := setAt_lit w [a] hs (by simp)
theorem rulesAt_lit (w : World) (a k : ByteArray) (ha : a.size ≤ 100) (hk : k.size ≤ 100) : RulesAt (w.alloc (.cells #[.string a, .string k] 68)) (.slice (some ⟨w.heap.size, 0, none⟩) 1 1) (fun x => x = w.heap.size) [(a, k)] := by
  refine ⟨_, 1, rfl, by simp [maxLen], fun j x hj => ?_⟩
  have hl := (List.getElem?_eq_some_iff.1 hj).1
  obtain rfl : j = 0 := by simp at hl; omega
  simp at hj
  subst hj
  exact ⟨_, 0, rfl, rfl, cell_of (obj_alloc_new _ _) rfl, cell_of (obj_alloc_new _ _) rfl, by unfold maxLen; simp only; omega, by unfold maxLen; simp only; omega⟩
def kA : ByteArray := ⟨#[96, 1]⟩
def kB : ByteArray := ⟨#[96, 2]⟩
def kK : ByteArray := ⟨#[32, 1]⟩
theorem kw_new (a b : ByteArray) (ha : a = kA) (hb : b = kB) : newE [] [(0, [a, b])] = 0 := by subst ha hb; decide +kernel
theorem kw_bad : newE [] [(-1, [])] = 2 := by decide +kernel
theorem kw_ask1 (a b k : ByteArray) (ha : a = kA) (hb : b = kB) (hk : k = kK) : askV [(a, k)] 9 [k, b] 0 [(0, [a, b])] = (1, 0, 0) := by subst ha hb hk; decide +kernel
theorem kw_ask2 (a b k : ByteArray) (ha : a = kA) (hb : b = kB) (hk : k = kK) : askV [(a, k)] 9 [k] 0 [(0, [a, b])] = (0, -1, 0) := by subst ha hb hk; decide +kernel
theorem kw_ask3 (a b k : ByteArray) (ha : a = kA) (hb : b = kB) (hk : k = kK) : askV [(a, k)] 1 [k, b] 0 [(0, [a, b])] = (2, -1, 0) := by subst ha hb hk; decide +kernel
theorem kw_fits (a k : ByteArray) (ha : a = kA) (hk : k = kK) : fitsE [(a, k)] 9 [k] [a] = (1, 0) := by subst ha hk; decide +kernel
theorem kw_add1 (a b k : ByteArray) (ha : a = kA) (hb : b = kB) (hk : k = kK) : addE (1, [k]) [(0, [a, b])] = 0 ∧ addL (1, [k]) [(0, [a, b])] = [(0, [a, b]), (1, [k])] := by subst ha hb hk; decide +kernel
theorem kw_add2 (a b k : ByteArray) (ha : a = kA) (hb : b = kB) (hk : k = kK) : addE (1, [k]) [(0, [a, b]), (1, [k])] = 11 ∧ addL (1, [k]) [(0, [a, b]), (1, [k])] = [(0, [a, b]), (1, [k])] := by subst ha hb hk; decide +kernel
theorem kw_rem1 (a b k : ByteArray) (ha : a = kA) (hb : b = kB) (hk : k = kK) : remE (0, [a, b]) [(0, [a, b]), (1, [k])] = 0 ∧ remL (0, [a, b]) [(0, [a, b]), (1, [k])] = [(1, [k])] := by subst ha hb hk; decide +kernel
theorem kw_rem2 (a b k : ByteArray) (ha : a = kA) (hb : b = kB) (hk : k = kK) : remE (0, [a, b]) [(1, [k])] = 10 ∧ remL (0, [a, b]) [(1, [k])] = [(1, [k])] := by subst ha hb hk; decide +kernel
theorem kw_ok (k : ByteArray) (hk : k = kK) : LOk [(1, [k])] := by subst hk; exact ⟨by decide +kernel, by decide +kernel, by decide⟩
set_option maxHeartbeats 4000000 in
set_option maxRecDepth 100000 in
theorem awake16_any (w : World) : Calls Try.prog 8 #[] w fun e w' => e = .returned (.bool true) ∧ Chg (fun _ => False) w w' := by
  obtain ⟨a, ha⟩ : ∃ x, x = kA := ⟨_, rfl⟩
  obtain ⟨b, hb⟩ : ∃ x, x = kB := ⟨_, rfl⟩
  obtain ⟨k, hk⟩ : ∃ x, x = kK := ⟨_, rfl⟩
  have OF1 := Lib.hid (fun w => of_one w 24577 24577 rfl a (by omega) (by rw [ha]; rfl))
  have OF2 := Lib.hid (fun w => of_one w 24578 24578 rfl b (by omega) (by rw [hb]; rfl))
  have OF3 := Lib.hid (fun w => of_one w 8193 8193 rfl k (by omega) (by rw [hk]; rfl))
  have N0 := Lib.hid (kw_new a b ha hb)
  have A1 := Lib.hid (kw_ask1 a b k ha hb hk)
  have A2 := Lib.hid (kw_ask2 a b k ha hb hk)
  have A3 := Lib.hid (kw_ask3 a b k ha hb hk)
  have F1 := Lib.hid (kw_fits a k ha hk)
  have D1 := Lib.hid (kw_add1 a b k ha hb hk)
  have D2 := Lib.hid (kw_add2 a b k ha hb hk)
  have M1 := Lib.hid (kw_rem1 a b k ha hb hk)
  have M2 := Lib.hid (kw_rem2 a b k ha hb hk)
  have OK1 := Lib.hid (kw_ok k hk)
  have sa : a.size ≤ 100 := by rw [ha]; decide
  have sb : b.size ≤ 100 := by rw [hb]; decide
  have sk : k.size ≤ 100 := by rw [hk]; decide
  have SZ := Lib.hid (show (∀ x ∈ [a, b], x.size ≤ 100) ∧ (∀ x ∈ [k, b], x.size ≤ 100) ∧ (∀ x ∈ [k], x.size ≤ 100) ∧ (∀ x ∈ [a], x.size ≤ 100) from by
    refine ⟨?_, ?_, ?_, ?_⟩ <;> (intro x hx; simp at hx; first | (rcases hx with rfl | rfl <;> assumption) | (subst hx; assumption)))
  have FEW := Lib.hid (show Few [(a, k)] from .inl ⟨by simp, by simp; omega⟩)
  clear ha hb hk
  go_enter Try.func8, Try.ntmps8
  go_wp2_with fail
  (with_reducible refine (OF1.out _).mono ?_)
  rintro e w1 ⟨rfl, k1⟩
  have K1 := Lib.hid k1
  clear k1
  go_wp2_with fail
  (with_reducible refine (OF2.out _).mono ?_)
  rintro e w2 ⟨rfl, k2⟩
  have K2 := Lib.hid (K1.out.trans k2)
  clear k2 K1
  go_wp2_with fail
  (with_reducible refine (OF3.out _).mono ?_)
  rintro e w3 ⟨rfl, k3⟩
  have K3 := Lib.hid (K2.out.trans k3)
  clear k3 K2 OF1 OF2 OF3
  have s0 := setAt_l2 w3 a b SZ.out.1
  have NW := lnew_any _ _ [(0, [a, b])] _ (entsAt_lit _ (0, [a, b]) _ _ s0) (by simp)
  have K4 := Lib.hid ((K3.out.alloc (.cells #[.string a, .string b] 40)).alloc (.cells #[.int .i64 0, .slice (some ⟨w3.heap.size, 0, none⟩) 2 2] 36))
  rw [World.size_alloc] at NW
  have NW := Lib.hid NW
  clear s0 K3
  go_wp2_with fail
  generalize (w3.alloc (.cells #[.string a, .string b] 40)).alloc (.cells #[.int .i64 0, .slice (some ⟨w3.heap.size, 0, none⟩) 2 2] 36) = w4 at *
  (with_reducible refine (NW.out).mono ?_)
  rintro e w5 ⟨hq, _, k5⟩
  obtain ⟨bl, rfl, hbl, hL⟩ := hq N0.out
  have L5 := Lib.hid hL
  have K5 := Lib.hid (K4.out.trans k5)
  have hb5 := hL.lt
  have hw5 := k5.size
  have hw4 : w.heap.size ≤ w4.heap.size := K4.out.size
  clear hq k5 hL NW K4
  go_wp2_with fail
  have r6 := (rulesAt_lit w5 a k sa sk).imp (G' := fun x => x < (w5.alloc (.cells #[.string a, .string k] 68)).heap.size) (fun x hx => by subst hx; simp)
  have s7 := setAt_l2 (w5.alloc (.cells #[.string a, .string k] 68)) k b SZ.out.2.1
  rw [World.size_alloc] at s7
  have k7 := (chg_alloc (fun _ => False) w5 (.cells #[.string a, .string k] 68)).alloc (.cells #[.string k, .string b] 40)
  have R7 := Lib.hid (rules_up r6 (chg_alloc (fun _ => False) _ (.cells #[.string k, .string b] 40)))
  have S7 := Lib.hid s7.at_
  have L7 := Lib.hid (L5.out.chg k7 (fun e => e) (fun _ _ e => e))
  have K7 := Lib.hid (K5.out.trans k7)
  have hb7 : bl < ((w5.alloc (.cells #[.string a, .string k] 68)).alloc (.cells #[.string k, .string b] 40)).heap.size := L7.out.lt
  have hg7 : w5.heap.size ≤ ((w5.alloc (.cells #[.string a, .string k] 68)).alloc (.cells #[.string k, .string b] 40)).heap.size := by simp; omega
  clear r6 s7 k7 L5 K5
  generalize (w5.alloc (.cells #[.string a, .string k] 68)).alloc (.cells #[.string k, .string b] 40) = w7 at *
  have ASK := Lib.hid (fun W (q : Chg (fun _ => False) w7 W) cv c bnd G' (hc : WordsAt W cv G' c) => ask_any W bl _ _ _ _ cv _ c 0 bnd _ G' (L7.out.chg q (fun e => e) (fun _ _ e => e)) (by simp) (rules_up R7.out q) FEW.out hc)
  have FITS := Lib.hid (fun W (q : Chg (fun _ => False) w7 W) sv cv c s bnd G G' (hs : WordsAt W sv G s) (hc : WordsAt W cv G' c) => fitsP_any W _ sv cv _ s c bnd G G' (rules_up R7.out q) FEW.out hs hc)
  have Q1 := ASK.out w7 (Chg.refl _ _) _ _ 9 _ S7.out
  rw [A1.out] at Q1
  have Q1 := Lib.hid Q1
  clear S7
  (with_reducible refine (Q1.out).mono ?_)
  rintro e w8 ⟨rfl, k8⟩
  have K8 := Lib.hid k8
  clear k8 Q1
  have s9 := setAt_l1 w8 k SZ.out.2.2.1
  have k9 := K8.out.alloc (.cells #[.string k] 40)
  have Q2 := ASK.out _ k9 _ _ 9 _ s9.at_
  rw [A2.out] at Q2
  have Q2 := Lib.hid Q2
  have K9 := Lib.hid k9
  clear k9 s9
  go_wp2_with fail
  (with_reducible refine (Q2.out).mono ?_)
  rintro e w10 ⟨rfl, k10⟩
  have K10 := Lib.hid (K9.out.trans k10)
  clear k10 Q2 K8 K9
  have s11 := setAt_l2 w10 k b SZ.out.2.1
  have k11 := K10.out.alloc (.cells #[.string k, .string b] 40)
  have Q3 := ASK.out _ k11 _ _ 1 _ s11.at_
  rw [A3.out] at Q3
  have Q3 := Lib.hid Q3
  have K11 := Lib.hid k11
  clear k11 s11
  go_wp2_with fail
  (with_reducible refine (Q3.out).mono ?_)
  rintro e w12 ⟨rfl, k12⟩
  have K12 := Lib.hid (K11.out.trans k12)
  clear k12 Q3 K10 K11
  have s13 := setAt_l1 w12 a SZ.out.2.2.2
  have s14 := setAt_l1 (w12.alloc (.cells #[.string a] 40)) k SZ.out.2.2.1
  rw [World.size_alloc] at s14
  have k14 := (K12.out.alloc (.cells #[.string a] 40)).alloc (.cells #[.string k] 40)
  have Q4 := FITS.out _ k14 _ _ _ _ 9 _ _ (s13.at_.chg (chg_alloc (fun _ => False) _ (.cells #[.string k] 40)) (fun _ _ e => e)) s14.at_
  rw [F1.out] at Q4
  have Q4 := Lib.hid Q4
  have K14 := Lib.hid k14
  clear s13 s14 k14
  go_wp2_with fail
  (with_reducible refine (Q4.out).mono ?_)
  rintro e w15 ⟨rfl, k15⟩
  have K15 := Lib.hid (K14.out.trans k15)
  have hsz15 : w7.heap.size ≤ w15.heap.size := K15.out.size
  clear k15 Q4 K12 K14
  have s16 := setAt_l1 w15 k SZ.out.2.2.1
  have k16 := K15.out.alloc (.cells #[.string k] 40)
  have Q5 := add_any _ bl _ (1, [k]) _ _ _ _ _ _ _ (L7.out.chg k16 (fun e => e) (fun _ _ e => e)) (by omega) s16
  rw [D1.out.1, D1.out.2] at Q5
  have Q5 := Lib.hid Q5
  have K16 := Lib.hid k16
  clear k16 s16
  go_wp2_with fail
  (with_reducible refine (Q5.out).mono ?_)
  rintro e w17 ⟨rfl, l17, k17⟩
  have K17 := Lib.hid ((K16.out.mono (T := fun x => x = bl) (fun _ _ e => e.elim)).trans (k17.mono (fun _ _ e => e)))
  have L17 := Lib.hid l17
  clear l17 k17 Q5 K15 K16 ASK FITS L7
  have s18 := setAt_l1 w17 k SZ.out.2.2.1
  have k18 := chg_alloc (fun _ => False) w17 (.cells #[.string k] 40)
  have Q6 := add_any _ bl _ (1, [k]) _ _ _ _ _ _ _ (L17.out.chg k18 (fun e => e) (fun _ _ e => e)) (by simp [verN]) s18
  rw [D2.out.1, D2.out.2] at Q6
  have Q6 := Lib.hid Q6
  have K18 := Lib.hid (K17.out.alloc (.cells #[.string k] 40))
  clear k18 s18
  go_wp2_with fail
  (with_reducible refine (Q6.out).mono ?_)
  rintro e w19 ⟨rfl, l19, k19⟩
  have K19 := Lib.hid (K18.out.trans k19)
  have L19 := Lib.hid l19
  clear l19 k19 Q6 K17 K18 L17
  have s20 := setAt_l2 w19 a b SZ.out.1
  have k20 := chg_alloc (fun _ => False) w19 (.cells #[.string a, .string b] 40)
  have Q7 := rem_any _ bl _ (0, [a, b]) _ _ _ _ _ _ _ (L19.out.chg k20 (fun e => e) (fun _ _ e => e)) (by simp [verN]) (by simp) s20
  rw [M1.out.1, M1.out.2] at Q7
  have Q7 := Lib.hid Q7
  have K20 := Lib.hid (K19.out.alloc (.cells #[.string a, .string b] 40))
  clear k20 s20
  go_wp2_with fail
  (with_reducible refine (Q7.out).mono ?_)
  rintro e w21 ⟨rfl, l21, k21⟩
  have K21 := Lib.hid (K20.out.trans k21)
  have L21 := Lib.hid l21
  clear l21 k21 Q7 K19 K20 L19
  have s22 := setAt_l2 w21 a b SZ.out.1
  have k22 := chg_alloc (fun _ => False) w21 (.cells #[.string a, .string b] 40)
  have Q8 := rem_any _ bl _ (0, [a, b]) _ _ _ _ _ _ _ (L21.out.chg k22 (fun e => e) (fun _ _ e => e)) (by simp [verN]) (by simp) s22
  rw [M2.out.1, M2.out.2] at Q8
  have Q8 := Lib.hid Q8
  have K22 := Lib.hid (K21.out.alloc (.cells #[.string a, .string b] 40))
  clear k22 s22
  go_wp2_with fail
  (with_reducible refine (Q8.out).mono ?_)
  rintro e w23 ⟨rfl, l23, k23⟩
  have K23 := Lib.hid (K22.out.trans k23)
  have L23 := Lib.hid (show ListAt w23 bl 70 _ [(1, [k])] 2 from l23)
  have AL := Lib.hid (lall_any w23 bl _ [(1, [k])] 2 _ l23 OK1.out)
  clear l23 k23 Q8 K21 K22 L21
  go_wp2_with fail
  (with_reducible refine (AL.out).mono ?_)
  rintro e w24 ⟨va, E, rfl, hE, k24⟩
  have HE := Lib.hid hE
  have K24 := Lib.hid (K23.out.next k24 (fun _ _ e => e.elim))
  have L24 := Lib.hid (L23.out.chg k24 (fun e => e) (fun _ _ e => e))
  have hEl : E.length = 1 := hE.len
  obtain ⟨ra, rc, eva⟩ := own_shape hE.row
  rw [hEl] at eva
  subst eva
  clear hE k24 AL K23 L23 hEl
  have NW := lnew_any _ _ [(-1, [])] _ (entsAt_lit w24 (-1, []) (.slice none 0 0) (fun _ => False) ⟨wordsAt_nil _ _, fun n c e => by cases e; exact ⟨rfl, rfl⟩⟩) (by simp)
  have NW := Lib.hid NW
  have kc := chg_alloc (fun _ => False) w24 (.cells #[.int .i64 (-1), .slice none 0 0] 36)
  have KC := Lib.hid kc
  clear kc
  go_wp2_with fail
  (with_reducible refine (NW.out).mono ?_)
  rintro e w25 ⟨_, hbad, k25⟩
  have e25 := hbad (by rw [kw_bad]; simp)
  rw [kw_bad] at e25
  subst e25
  have K25 := Lib.hid (K24.out.next (KC.out.trans k25) (fun _ _ e => e.elim))
  have L25 := Lib.hid (L24.out.chg (KC.out.trans k25) (fun e => e) (fun _ _ e => e))
  have E25 := Lib.hid (HE.out.chg (KC.out.trans k25) (fun _ _ _ e => e))
  clear k25 NW KC K24 L24 HE hbad
  go_wp2_with fail
  obtain ⟨g, o, sa, sc, rfl, hg, c0, c1, hs⟩ := (E25.out.up (fun x hx s hs => by simp at hx; subst hx; simp at hs; subst hs; unfold maxLen; omega)).get (j := 0) rfl
  simp only [Nat.zero_mul, Nat.add_zero, List.length_cons, List.length_nil, Nat.zero_add] at c0 c1 hs
  have VER := Lib.hid (fun w1 (q : Chg (fun _ => False) w25 w1) => version_any w1 bl _ _ 2 _ (L25.out.chg q (fun e => e) (fun _ _ e => e)))
  have SAM := Lib.hid (fun w1 (q : Chg (fun _ => False) w25 w1) => esame_any w1 (1, [k]) (1, [k]) sa sa 1 sc 1 sc _ _ (hs.at_.chg q (fun _ _ e => e)) (hs.at_.chg q (fun _ _ e => e)))
  have eq1 : eqB (1, [k]) (1, [k]) = true := decide_eq_true rfl
  rw [eq1] at SAM
  have KE := Lib.hid (show ∀ W, Chg (fun _ => False) w25 W → Chg (fun _ => False) w W from fun W q => K7.out.next (K25.out.next q (fun _ _ e => e.elim)) (fun x hx e => by omega))
  clear eq1 hs E25 L25 K25 K7 A1 A2 A3 F1 D1 D2 M1 M2 OK1 N0 SZ FEW R7
  refine wp_region_plan (N := 187) [.rd [0, 1, 2, 3, 4, 5, 6, 7, 8, 9, 10, 11, 12, 13, 14, 15, 16, 17, 18, 19, 20, 21, 22, 23, 24, 25, 26, 27, 28, 29, 30, 31, 32, 33, 34, 35, 36, 37, 38, 39, 40, 41, 42, 43, 44, 45, 46, 47, 48, 49, 50, 51, 52], .ef 53, .rd [54, 55, 56, 57, 58, 59, 60, 61, 62, 63, 64, 65, 66], .ef 67, .rd [68, 69]] (fun w' => w'.cell? ⟨g, o, none⟩ = some (.int .i64 1) ∧ w'.cell? ⟨g, o + 1, none⟩ = some (.slice sa 1 sc)) (by kernel_rfl) (by kernel_rfl) (by kernel_rfl) (by kernel_rfl) (Nat.le_of_ble_eq_true rfl) ⟨c0, c1⟩ ?_
  refine plan_rd (A := ?A1) ?h1 ?h2
  case h1 =>
    rintro w' ⟨z0, z1⟩ K hK
    simp only [opsAt, List.filterMap_cons, List.filterMap_nil, List.getElem?_toArray]
    refine WS.out ?_
    repeat (refine ws_step (fun K hK => ?_); go_simp; refine hK _ ?_; clear hK K)
    refine ws_nil ?_
    exact hK
  have D := Lib.hid (chg_drew (fun _ => False) w25)
  have f0 := cell_chg D.out (fun e => e) c0
  have f1 := cell_chg D.out (fun e => e) c1
  have V1 := Lib.hid (VER.out _ D.out)
  clear c0 c1 VER
  generalize w25.drew = wd at *
  refine plan_ef rfl ?_
  go_wp2_with fail
  (with_reducible refine (V1.out).mono ?_)
  rintro e w26 ⟨rfl, rfl⟩
  go_wp2_with fail
  refine ⟨⟨f0, f1⟩, ?_⟩
  refine plan_rd (A := ?A2) ?h3 ?h4
  case h3 =>
    rintro w' ⟨z0, z1⟩ K hK
    simp only [opsAt, List.filterMap_cons, List.filterMap_nil, List.getElem?_toArray]
    refine WS.out ?_
    repeat (refine ws_step (fun K hK => ?_); go_simp; refine hK _ ?_; clear hK K)
    refine ws_nil ?_
    exact hK
  have S1 := Lib.hid (SAM.out _ D.out)
  clear SAM V1
  refine plan_ef rfl ?_
  go_wp2_with fail
  (with_reducible refine (S1.out).mono ?_)
  rintro e w27 ⟨rfl, k27⟩
  have g0 := cell_chg k27 (fun e => e) f0
  have g1 := cell_chg k27 (fun e => e) f1
  have KF := Lib.hid (KE.out _ (D.out.trans k27))
  clear k27 f0 f1 S1 KE D
  go_wp2_with fail
  refine ⟨⟨g0, g1⟩, ?_⟩
  refine plan_rd (A := ?A3) ?h5 ?h6
  case h5 =>
    rintro w' ⟨z0, z1⟩ K hK
    simp only [opsAt, List.filterMap_cons, List.filterMap_nil, List.getElem?_toArray]
    refine WS.out ?_
    repeat (refine ws_step (fun K hK => ?_); go_simp; refine hK _ ?_; clear hK K)
    refine ws_nil ?_
    exact hK
  refine plan_nil ?_
  go_wp2
  go_ret
  exact ⟨rfl, KF.out⟩
end Go.Proofs.Ytbjdndialiddpaa
