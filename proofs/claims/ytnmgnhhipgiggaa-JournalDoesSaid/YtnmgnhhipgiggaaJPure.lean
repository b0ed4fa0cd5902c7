/-
  Layer 20 in plain Lean: what a journal's commits and crashes do. No program in sight.
-/
import Derived.Test.YtnmgnhhipgiggaaJModel
namespace Go.Proofs.Ytnmgnhhipgiggaa

/-- The bytes of a head, read again. -/
theorem u8_toNat (n : Nat) (h : n < 256) : (UInt8.ofNat n).toNat = n := by rw [UInt8.toNat_ofNat']; omega
theorem hnum_head (x : Int) (h n : Nat) (h0 : -9223372036854775808 ≤ x) (h1 : x < 9223372036854775808) : hnum (pad (headBytes x h n)) = x := by
  have e : (pad (headBytes x h n)).take 8 = (List.range 8).map fun i => UInt8.ofNat (nbyteN x i) := by
    unfold pad headBytes
    rw [List.append_assoc, List.take_append_of_le_length (by simp)]
    rw [List.take_of_length_le (by simp)]
  have hb : be ((List.range 8).map fun i => UInt8.ofNat (nbyteN x i)) = (x % 18446744073709551616).toNat := by
    have hX : (x % 18446744073709551616).toNat < 18446744073709551616 := by omega
    have r : (List.range 8).map (fun i => UInt8.ofNat (nbyteN x i)) = [UInt8.ofNat (nbyteN x 0), UInt8.ofNat (nbyteN x 1), UInt8.ofNat (nbyteN x 2), UInt8.ofNat (nbyteN x 3), UInt8.ofNat (nbyteN x 4), UInt8.ofNat (nbyteN x 5), UInt8.ofNat (nbyteN x 6), UInt8.ofNat (nbyteN x 7)] := rfl
    rw [r]
    have lt : ∀ i, nbyteN x i < 256 := fun i => Nat.mod_lt _ (by decide)
    simp only [be, List.foldl_cons, List.foldl_nil, u8_toNat _ (lt _)]
    unfold nbyteN
    generalize (x % 18446744073709551616).toNat = X at *
    have p0 : 2 ^ (8 * (7 - 0)) = 72057594037927936 := by decide
    have p1 : 2 ^ (8 * (7 - 1)) = 281474976710656 := by decide
    have p2 : 2 ^ (8 * (7 - 2)) = 1099511627776 := by decide
    have p3 : 2 ^ (8 * (7 - 3)) = 4294967296 := by decide
    have p4 : 2 ^ (8 * (7 - 4)) = 16777216 := by decide
    have p5 : 2 ^ (8 * (7 - 5)) = 65536 := by decide
    have p6 : 2 ^ (8 * (7 - 6)) = 256 := by decide
    have p7 : 2 ^ (8 * (7 - 7)) = 1 := by decide
    rw [p0, p1, p2, p3, p4, p5, p6, p7]
    omega
  unfold hnum i64of
  rw [e, hb]
  split <;> omega
theorem hhalf_head (x : Int) (h n : Nat) (hh : h ≤ 1) : hhalf (pad (headBytes x h n)) = h := by
  have : (pad (headBytes x h n)).getD 8 0 = UInt8.ofNat h := by
    unfold pad headBytes; rfl
  unfold hhalf; rw [this]; exact u8_toNat h (by omega)
theorem hsize_head (x : Int) (h n : Nat) (hn : n < 65536) : hsize (pad (headBytes x h n)) = n := by
  have e1 : (pad (headBytes x h n)).getD 9 0 = UInt8.ofNat (n / 256) := by unfold pad headBytes; rfl
  have e2 : (pad (headBytes x h n)).getD 10 0 = UInt8.ofNat n := by unfold pad headBytes; rfl
  unfold hsize; rw [e1, e2, u8_toNat _ (by omega), UInt8.toNat_ofNat']; omega

/-- how many sectors a text takes -/
def secN (s : List UInt8) : Nat := (s.length + 31) / 32
/-- its i-th sector -/
def chunk (s : List UInt8) (i : Nat) : List UInt8 := pad ((s.drop (32 * i)).take 32)
theorem chunk_succ (s : List UInt8) (i : Nat) : chunk s (i + 1) = chunk (s.drop 32) i := by
  unfold chunk; rw [List.drop_drop, show 32 * (i + 1) = 32 + 32 * i from by omega]
/-- Sectors that hold a text give it back. -/
theorem text_back : ∀ (m : Nat) (f : Nat → List UInt8) (s : List UInt8), s.length ≤ 32 * m → (∀ i, i < secN s → f i = chunk s i) → ((List.range m).flatMap f).take s.length = s := by
  intro m
  induction m with
  | zero => intro f s h _; have : s = [] := List.eq_nil_of_length_eq_zero (by omega); subst this; simp
  | succ m ih =>
    intro f s h hf
    by_cases h0 : s.length = 0
    · have : s = [] := List.eq_nil_of_length_eq_zero h0; subst this; simp
    · rw [List.range_succ_eq_map, List.flatMap_cons]
      have e : (List.map Nat.succ (List.range m)).flatMap f = (List.range m).flatMap (fun i => f (i + 1)) := by
        rw [List.flatMap_map]
      rw [e]
      have f0 := hf 0 (by unfold secN; omega)
      have hih := ih (fun i => f (i + 1)) (s.drop 32) (by rw [List.length_drop]; omega) (fun i hi => by
        rw [hf (i + 1) (by unfold secN at *; rw [List.length_drop] at hi; omega), chunk_succ])
      by_cases h32 : s.length ≤ 32
      · have c0 : chunk s 0 = s ++ List.replicate (32 - s.length) 0 := by
          unfold chunk pad
          simp only [Nat.mul_zero, List.drop_zero]
          rw [List.take_of_length_le h32]
        rw [f0, c0, List.append_assoc, List.take_append_of_le_length (Nat.le_refl _), List.take_length]
      · have c0 : chunk s 0 = s.take 32 := by
          unfold chunk pad
          simp only [Nat.mul_zero, List.drop_zero]
          rw [List.length_take, show 32 - min 32 s.length = 0 from by omega]; simp
        have l0 : (s.take 32).length = 32 := by rw [List.length_take]; omega
        rw [f0, c0, List.take_append, l0]
        rw [List.take_of_length_le (by omega)]
        rw [show s.length - 32 = (s.drop 32).length from by rw [List.length_drop]]
        rw [hih, List.take_append_drop]

def Dev.nw (d : Dev) (i : Nat) : List UInt8 := d.now.getD i []
def Dev.sr (d : Dev) (i : Nat) : List UInt8 := d.sure.getD i []
def Dev.pd (d : Dev) (i : Nat) : Bool := d.pend.getD i false

theorem getD_set_self {α : Type} {l : List α} {i : Nat} (h : i < l.length) (x z : α) : (l.set i x).getD i z = x := by
  rw [List.getD_eq_getElem?_getD, List.getElem?_set_self h]; rfl
theorem getD_set_ne' {α : Type} {l : List α} {i k : Nat} (h : i ≠ k) (x z : α) : (l.set i x).getD k z = l.getD k z := by
  rw [List.getD_eq_getElem?_getD, List.getElem?_set_ne h, List.getD_eq_getElem?_getD]
theorem Dev.nw_put {n : Nat} {d : Dev} (ok : d.Ok n) {i : Nat} (hi : i < n) (s : List UInt8) : (d.put i s).nw i = pad s := getD_set_self (by rw [ok.lnow]; exact hi) _ _
theorem Dev.nw_put_ne (d : Dev) {i k : Nat} (h : i ≠ k) (s : List UInt8) : (d.put i s).nw k = d.nw k := getD_set_ne' h _ _
theorem Dev.pd_put {n : Nat} {d : Dev} (ok : d.Ok n) {i : Nat} (hi : i < n) (s : List UInt8) : (d.put i s).pd i = true := getD_set_self (by rw [ok.lpend]; exact hi) _ _
theorem Dev.pd_put_ne (d : Dev) {i k : Nat} (h : i ≠ k) (s : List UInt8) : (d.put i s).pd k = d.pd k := getD_set_ne' h _ _
theorem Dev.burnt_now (d : Dev) : d.burnt.now = d.now := by unfold Dev.burnt; split <;> rfl
theorem Dev.burnt_sure (d : Dev) : d.burnt.sure = d.sure := by unfold Dev.burnt; split <;> rfl
theorem Dev.burnt_pend (d : Dev) : d.burnt.pend = d.pend := by unfold Dev.burnt; split <;> rfl
theorem Dev.burnt_on (d : Dev) : d.burnt.on = d.on := by unfold Dev.burnt; split <;> rfl
theorem Dev.burnt_nw (d : Dev) (i : Nat) : d.burnt.nw i = d.nw i := by unfold Dev.nw; rw [d.burnt_now]
theorem Dev.burnt_pd (d : Dev) (i : Nat) : d.burnt.pd i = d.pd i := by unfold Dev.pd; rw [d.burnt_pend]
theorem Dev.burnt_dead (d : Dev) (h : d.stops = true) : d.burnt.dead = true := by unfold Dev.burnt; rw [if_pos h]
theorem Dev.burnt_alive (d : Dev) (h : d.stops = false) : d.burnt.dead = false := by
  unfold Dev.burnt; rw [if_neg (by rw [h]; decide)]; simp [Dev.stops] at h; exact h.1
theorem getD_replicate_false' (n i : Nat) : (List.replicate n false).getD i false = false := by
  rw [List.getD_eq_getElem?_getD, List.getElem?_replicate]; split <;> rfl
theorem Dev.settle_pd (d : Dev) (i : Nat) : d.settle.pd i = false := getD_replicate_false' _ _

theorem stops_on {d : Dev} (hd : d.dead = false) (h : d.stops = true) : d.on = true := by
  simp [Dev.stops, hd] at h; exact h.1
/-- A write to a sector that is there, of bytes that fit. -/
theorem write_in {n : Nat} {d : Dev} (ok : d.Ok n) (hd : d.dead = false) {a : Nat} (ha : a < n) {s : List UInt8} (hs : s.length ≤ 32) :
    d.write a s = if d.stops then (d.burnt, 20) else (d.burnt.put a s, 0) := by
  unfold Dev.write
  rw [hd, if_neg (by decide), ok.lnow, if_neg (by omega), if_neg (by omega)]; rfl

structure LayBad (n : Nat) (d d' : Dev) (a k : Nat) : Prop where
  ok : d'.Ok n
  dead : d'.dead = true
  sure : d'.sure = d.sure
  out : ∀ i, (i < a ∨ a + k ≤ i) → d'.nw i = d.nw i ∧ d'.pd i = d.pd i
  pend : ∀ i, d'.pd i = false → d.pd i = false ∧ d'.nw i = d.nw i
  on : d.on = true
structure LayGood (n : Nat) (d d' : Dev) (a : Nat) (s : List UInt8) : Prop where
  ok : d'.Ok n
  dead : d'.dead = false
  sure : d'.sure = d'.now
  pend : ∀ i, d'.pd i = false
  out : ∀ i, (i < a ∨ a + secN s ≤ i) → d'.nw i = d.nw i
  inn : ∀ i, i < secN s → d'.nw (a + i) = chunk s i
  on : d'.on = d.on

theorem lay_spec {n : Nat} : ∀ (k : Nat) (s : List UInt8), s.length ≤ k → ∀ (d : Dev) (a : Nat), d.Ok n → d.dead = false → a + secN s ≤ n →
    ((d.lay a s).2 = 20 ∧ LayBad n d (d.lay a s).1 a (secN s)) ∨ ((d.lay a s).2 = 0 ∧ LayGood n d (d.lay a s).1 a s) := by
  intro k
  induction k with
  | zero =>
    intro s hk d a ok hd _
    have h0 : s.length = 0 := by omega
    have hs0 : secN s = 0 := by unfold secN; omega
    rw [lay_nil d a s h0]
    unfold Dev.barrier
    cases hst : d.stops with
    | true =>
      rw [if_pos rfl]
      exact .inl ⟨rfl, ok.burnt, d.burnt_dead hst, d.burnt_sure, fun i _ => ⟨d.burnt_nw i, d.burnt_pd i⟩, fun i hi => ⟨by rw [← d.burnt_pd]; exact hi, d.burnt_nw i⟩, stops_on hd hst⟩
    | false =>
      rw [if_neg (by decide)]
      exact .inr ⟨rfl, ok.burnt.settle, d.burnt_alive hst, rfl, fun i => d.burnt.settle_pd i, fun i _ => d.burnt_nw i, fun i hi => by omega, d.burnt_on⟩
  | succ k ih =>
    intro s hk d a ok hd ha
    by_cases h0 : s.length = 0
    · exact ih s (by omega) d a ok hd ha
    · have hs1 : secN s = secN (s.drop 32) + 1 := by unfold secN; rw [List.length_drop]; omega
      have hl : (s.take 32).length ≤ 32 := by rw [List.length_take]; omega
      have hw := write_in ok hd (show a < n by omega) hl
      cases hst : d.stops with
      | true =>
        rw [hst, if_pos rfl] at hw
        rw [lay_pos d a s (by omega), hw, if_neg (show ¬ (20 : Int) = 0 by decide)]
        exact .inl ⟨rfl, ok.burnt, d.burnt_dead hst, d.burnt_sure, fun i _ => ⟨d.burnt_nw i, d.burnt_pd i⟩, fun i hi => ⟨by rw [← d.burnt_pd]; exact hi, d.burnt_nw i⟩, stops_on hd hst⟩
      | false =>
        rw [hst, if_neg (by decide)] at hw
        rw [lay_pos d a s (by omega), hw, if_pos rfl]
        have ok1 := ok.burnt.put a (s.take 32) hl
        have hd1 : (d.burnt.put a (s.take 32)).dead = false := d.burnt_alive hst
        have nwa : (d.burnt.put a (s.take 32)).nw a = chunk s 0 := by rw [Dev.nw_put ok.burnt (by omega)]; unfold chunk; simp
        have nwo : ∀ i, i ≠ a → (d.burnt.put a (s.take 32)).nw i = d.nw i := fun i hi => by rw [Dev.nw_put_ne _ (Ne.symm hi), d.burnt_nw]
        have pdo : ∀ i, i ≠ a → (d.burnt.put a (s.take 32)).pd i = d.pd i := fun i hi => by rw [Dev.pd_put_ne _ (Ne.symm hi), d.burnt_pd]
        have pda : (d.burnt.put a (s.take 32)).pd a = true := Dev.pd_put ok.burnt (by omega) _
        have sr1 : (d.burnt.put a (s.take 32)).sure = d.sure := d.burnt_sure
        have on1 : (d.burnt.put a (s.take 32)).on = d.on := d.burnt_on
        generalize d.burnt.put a (s.take 32) = d1 at *
        rcases ih (s.drop 32) (by rw [List.length_drop]; omega) d1 (a + 1) ok1 hd1 (by omega) with ⟨e, h⟩ | ⟨e, h⟩
        · refine .inl ⟨e, h.ok, h.dead, h.sure.trans sr1, fun i hi => ?_, fun i hi => ?_, ?_⟩
          · have h1 := h.out i (by omega)
            rw [nwo i (by omega), pdo i (by omega)] at h1
            exact h1
          · have h1 := h.pend i hi
            have hia : i ≠ a := fun e => by rw [e, pda] at h1; cases h1.1
            rw [nwo i hia, pdo i hia] at h1
            exact h1
          · rw [← on1]; exact h.on
        · refine .inr ⟨e, h.ok, h.dead, h.sure, h.pend, fun i hi => ?_, fun i hi => ?_, h.on.trans on1⟩
          · rw [h.out i (by omega), nwo i (by omega)]
          · cases i with
            | zero => exact (h.out a (by omega)).trans nwa
            | succ i => have := h.inn i (by omega); rw [show a + 1 + i = a + (i + 1) from by omega] at this; rw [chunk_succ]; exact this

/-- What a journal says is what the device's sectors say. -/
structure Rep (d : Dev) (j : Jr) : Prop where
  fine : ¬ d.bad
  num : hnum d.hd = j.number
  half : hhalf d.hd = j.half
  text : d.text = j.text.data.toList

/-- Nothing is pending, all is sure. -/
structure Clean (d : Dev) : Prop where
  sure : d.sure = d.now
  pend : ∀ i, d.pd i = false

/-- The sectors that a half takes. -/
def inHalf (d : Dev) (h i : Nat) : Prop := 1 + h * d.m ≤ i ∧ i < 1 + h * d.m + d.m

theorem Rep.half_le {d : Dev} {j : Jr} (h : Rep d j) : j.half ≤ 1 := by
  have := h.fine; unfold Dev.bad at this; rw [h.half] at this; omega
theorem m_of {n : Nat} {d : Dev} (ok : d.Ok n) : d.m = (n - 1) / 2 := by unfold Dev.m; rw [ok.lnow]
theorem area_congr {d d' : Dev} (hm : d'.m = d.m) (h : Nat) (e : ∀ i, inHalf d h i → d'.nw i = d.nw i) : d'.area h = d.area h := by
  unfold Dev.area Dev.areaTo
  rw [hm]
  rw [List.flatMap_def, List.flatMap_def]
  congr 1
  apply List.map_congr_left
  intro i hi
  rw [List.mem_range] at hi
  exact e _ ⟨by omega, by omega⟩
/-- The head and the half that it tells of are the same: so is what they say. -/
theorem Rep.congr {d d' : Dev} {j : Jr} (h : Rep d j) (hm : d'.m = d.m) (h0 : d'.nw 0 = d.nw 0) (he : ∀ i, inHalf d j.half i → d'.nw i = d.nw i) : Rep d' j := by
  have hh : d'.hd = d.hd := h0
  refine ⟨?_, by rw [hh]; exact h.num, by rw [hh]; exact h.half, ?_⟩
  · have := h.fine; unfold Dev.bad at *; rw [hh, hm]; exact this
  · have := h.text; unfold Dev.text at *; rw [hh, area_congr hm _ (by rw [h.half]; exact he)]; exact this

/-- A half that holds a text, and a head that tells of it. -/
theorem rep_of {n : Nat} {d : Dev} (ok : d.Ok n) {x : Int} {h : Nat} {s : ByteArray} (hx0 : -9223372036854775808 ≤ x) (hx1 : x < 9223372036854775808) (hh : h ≤ 1) (hs : s.size ≤ d.m * 32)
    (h0 : d.nw 0 = pad (headBytes x h s.size)) (hc : ∀ i, i < secN s.data.toList → d.nw (1 + h * d.m + i) = chunk s.data.toList i) : Rep d ⟨x, h, s⟩ := by
  have hm := m_of ok
  have n65 := ok.hi
  have hhd : d.hd = pad (headBytes x h s.size) := h0
  have hsl : s.data.toList.length = s.size := by rw [Array.length_toList]; rfl
  have e2 : hhalf d.hd = h := by rw [hhd]; exact hhalf_head x h _ hh
  have e3 : hsize d.hd = s.size := by rw [hhd]; exact hsize_head x h _ (by omega)
  refine ⟨?_, by rw [hhd]; exact hnum_head x h _ hx0 hx1, e2, ?_⟩
  · unfold Dev.bad; rw [e2, e3]; omega
  · unfold Dev.text Dev.area Dev.areaTo
    rw [e2, e3, ← hsl]
    exact text_back d.m _ _ (by omega) hc

structure Disk (n : Nat) (d : Dev) (j : Jr) (may : ByteArray) : Prop where
  ok : d.Ok n
  rep : Rep { d with now := d.sure } j
  same : ∀ i, d.pd i = false → d.nw i = d.sr i
  /-- What is pending is no sector of the record; or it is the head alone, and that tells of another text. -/
  way : (∀ i, (i = 0 ∨ inHalf d j.half i) → d.pd i = false) ∨ ((∀ i, i ≠ 0 → d.pd i = false) ∧ Rep d ⟨j.number + 1, 1 - j.half, may⟩)

theorem barrier_eq (d : Dev) : d.barrier = if d.stops then (d.burnt, 20) else (d.burnt.settle, 0) := rfl
theorem m_congr {d d' : Dev} {n : Nat} (ok : d.Ok n) (ok' : d'.Ok n) : d'.m = d.m := by rw [m_of ok, m_of ok']
theorem Clean.sr {d : Dev} (h : Clean d) (i : Nat) : d.sr i = d.nw i := by unfold Dev.sr Dev.nw; rw [h.sure]
theorem sure_nw (d : Dev) (i : Nat) : Dev.nw { d with now := d.sure } i = d.sr i := rfl
theorem sure_ok {n : Nat} {d : Dev} (ok : d.Ok n) : Dev.Ok n { d with now := d.sure } := ⟨ok.lo, ok.hi, ok.lsure, ok.lsure, ok.lpend, ok.wsure, ok.wsure, ok.fuse0, ok.fuse1⟩
theorem Clean.disk {n : Nat} {d : Dev} {j : Jr} (ok : d.Ok n) (h : Clean d) (hr : Rep d j) (may : ByteArray) : Disk n d j may :=
  ⟨ok, hr.congr (m_congr ok (sure_ok ok)) (h.sr 0) (fun i _ => h.sr i), fun i _ => (h.sr i).symm, .inl (fun i _ => h.pend i)⟩
theorem half_apart {d : Dev} {h : Nat} (hh : h ≤ 1) {k : Nat} (hk : k ≤ d.m) {i : Nat} (hi : i = 0 ∨ inHalf d h i) : i < 1 + (1 - h) * d.m ∨ 1 + (1 - h) * d.m + k ≤ i := by
  rcases (by omega : h = 0 ∨ h = 1) with rfl | rfl
  · unfold inHalf at hi; simp only [Nat.zero_mul, Nat.sub_zero, Nat.one_mul] at *; omega
  · unfold inHalf at hi; simp only [Nat.sub_self, Nat.zero_mul, Nat.one_mul] at *; omega

inductive Done (n : Nat) (d : Dev) (j : Jr) (s : ByteArray) : Dev × Int × Jr → Prop where
  | size (h : d.m * 32 < s.size) : Done n d j s (d, 4, j)
  | many (h : s.size ≤ d.m * 32) (h' : 4611686018427387904 ≤ j.number) : Done n d j s (d, 3, j)
  | down (d' : Dev) (h : s.size ≤ d.m * 32) (hd : d'.dead = true) (hk : Disk n d' j s) (ho : d.on = true) : Done n d j s (d', 20, j)
  | fine (d' : Dev) (h : s.size ≤ d.m * 32) (h' : j.number < 4611686018427387904) (ok : d'.Ok n) (hd : d'.dead = false) (hc : Clean d') (hr : Rep d' ⟨j.number + 1, 1 - j.half, s⟩) (ho : d'.on = d.on) : Done n d j s (d', 0, ⟨j.number + 1, 1 - j.half, s⟩)

theorem commit_done {n : Nat} {d : Dev} {j : Jr} (ok : d.Ok n) (hd : d.dead = false) (hc : Clean d) (hr : Rep d j) (hn : -9223372036854775808 ≤ j.number) (s : ByteArray) : Done n d j s (commit d j s) := by
  have hm := m_of ok
  have n65 := ok.hi
  have hsl : s.data.toList.length = s.size := by rw [Array.length_toList]; rfl
  have hh := hr.half_le
  unfold commit
  rw [hd, if_neg (by decide)]
  by_cases h1 : d.m * 32 < s.size
  · rw [if_pos h1]; exact .size h1
  rw [if_neg h1]
  by_cases h2 : 4611686018427387904 ≤ j.number
  · rw [if_pos h2]; exact .many (by omega) h2
  rw [if_neg h2]
  have hk : secN s.data.toList ≤ d.m := by unfold secN; rw [hsl]; omega
  have hx : 1 + (1 - j.half) * d.m + secN s.data.toList ≤ n := by
    have := ok.lo
    rcases (by omega : j.half = 0 ∨ j.half = 1) with e | e <;> rw [e] <;> simp only [Nat.sub_zero, Nat.one_mul, Nat.sub_self, Nat.zero_mul] <;> omega
  dsimp only
  rcases lay_spec s.data.toList.length s.data.toList (Nat.le_refl _) d _ ok hd hx with ⟨e, b⟩ | ⟨e, g⟩
  · -- it died on the way
    rw [e, if_pos (by decide)]
    refine .down _ (by omega) b.dead ⟨b.ok, ?_, fun i hi => ?_, .inl (fun i hi => ?_)⟩ b.on
    · have := hr
      refine Rep.congr (d := d) hr (m_congr ok (sure_ok b.ok)) ?_ (fun i _ => ?_)
      · rw [sure_nw]; unfold Dev.sr; rw [b.sure, hc.sure]; rfl
      · rw [sure_nw]; unfold Dev.sr; rw [b.sure, hc.sure]; rfl
    · rw [(b.pend i hi).2, ← hc.sr i]; unfold Dev.sr; rw [b.sure]
    · have hi' : i = 0 ∨ inHalf d j.half i := by unfold inHalf at *; rw [m_congr b.ok ok]; exact hi
      rw [(b.out i (half_apart hh hk hi')).2]; exact hc.pend i
  · generalize (d.lay (1 + (1 - j.half) * d.m) s.data.toList).1 = d1 at *
    rw [e, if_neg (by decide)]
    have m1 : d1.m = d.m := m_congr ok g.ok
    have c1 : Clean d1 := ⟨g.sure, g.pend⟩
    have r1 : Rep d1 j := hr.congr m1 (g.out 0 (half_apart hh hk (.inl rfl))) (fun i hi => g.out i (half_apart hh hk (.inr hi)))
    have hhl : (headBytes (j.number + 1) (1 - j.half) s.size).length ≤ 32 := by rw [headBytes_length]; decide
    have hw := write_in g.ok g.dead (a := 0) (by omega) hhl
    cases hst : d1.stops with
    | true =>
      rw [hst, if_pos rfl] at hw
      rw [show d1.write 0 (headBytes (j.number + 1) (1 - j.half) s.size) = (d1.burnt, 20) from hw, if_pos (show (20 : Int) ≠ 0 by decide)]
      refine .down _ (by omega) (d1.burnt_dead hst) ?_ (by rw [← g.on]; exact stops_on g.dead hst)
      refine Clean.disk g.ok.burnt ⟨by rw [d1.burnt_sure, d1.burnt_now]; exact c1.sure, fun i => by rw [d1.burnt_pd]; exact c1.pend i⟩ ?_ s
      exact r1.congr (m_congr g.ok g.ok.burnt) (d1.burnt_nw 0) (fun i _ => d1.burnt_nw i)
    | false =>
      rw [hst, if_neg (by decide)] at hw
      rw [show d1.write 0 (headBytes (j.number + 1) (1 - j.half) s.size) = (d1.burnt.put 0 (headBytes (j.number + 1) (1 - j.half) s.size), 0) from hw, if_neg (show ¬ (0 : Int) ≠ 0 by decide)]
      have ok2 := g.ok.burnt.put 0 (headBytes (j.number + 1) (1 - j.half) s.size) hhl
      have nw0 : (d1.burnt.put 0 (headBytes (j.number + 1) (1 - j.half) s.size)).nw 0 = pad (headBytes (j.number + 1) (1 - j.half) s.size) := Dev.nw_put g.ok.burnt (by omega) _
      have nwo : ∀ i, i ≠ 0 → (d1.burnt.put 0 (headBytes (j.number + 1) (1 - j.half) s.size)).nw i = d1.nw i := fun i hi => by rw [Dev.nw_put_ne _ (Ne.symm hi), d1.burnt_nw]
      have pdo : ∀ i, i ≠ 0 → (d1.burnt.put 0 (headBytes (j.number + 1) (1 - j.half) s.size)).pd i = false := fun i hi => by rw [Dev.pd_put_ne _ (Ne.symm hi), d1.burnt_pd]; exact c1.pend i
      have pd0 : (d1.burnt.put 0 (headBytes (j.number + 1) (1 - j.half) s.size)).pd 0 = true := Dev.pd_put g.ok.burnt (by omega) _
      have sr1 : (d1.burnt.put 0 (headBytes (j.number + 1) (1 - j.half) s.size)).sure = d1.sure := d1.burnt_sure
      have dd : (d1.burnt.put 0 (headBytes (j.number + 1) (1 - j.half) s.size)).dead = false := d1.burnt_alive hst
      have on1 : (d1.burnt.put 0 (headBytes (j.number + 1) (1 - j.half) s.size)).on = d1.on := d1.burnt_on
      generalize d1.burnt.put 0 (headBytes (j.number + 1) (1 - j.half) s.size) = d2 at *
      have m2 : d2.m = d.m := m_congr ok ok2
      have r2 : Rep d2 ⟨j.number + 1, 1 - j.half, s⟩ := by
        refine rep_of ok2 (by omega) (by omega) (by omega) (by omega) nw0 (fun i hi => ?_)
        rw [m2, nwo _ (by omega)]; exact g.inn i hi
      rw [barrier_eq]
      cases hst2 : d2.stops with
      | true =>
        rw [if_pos rfl, if_pos (show (20 : Int) ≠ 0 by decide)]
        refine .down _ (by omega) (d2.burnt_dead hst2) ⟨ok2.burnt, ?_, fun i hi => ?_, .inr ⟨fun i hi => by rw [d2.burnt_pd]; exact pdo i hi, ?_⟩⟩ (by rw [← g.on, ← on1]; exact stops_on dd hst2)
        · refine Rep.congr (d := d1) r1 (m_congr g.ok (sure_ok ok2.burnt)) ?_ (fun i _ => ?_)
          · rw [sure_nw]; unfold Dev.sr; rw [d2.burnt_sure, sr1, c1.sure]; rfl
          · rw [sure_nw]; unfold Dev.sr; rw [d2.burnt_sure, sr1, c1.sure]; rfl
        · rw [d2.burnt_pd] at hi
          have hi0 : i ≠ 0 := fun e => by rw [e, pd0] at hi; cases hi
          rw [d2.burnt_nw, nwo i hi0, ← c1.sr i]; unfold Dev.sr; rw [d2.burnt_sure, sr1]
        · exact r2.congr (m_congr ok2 ok2.burnt) (d2.burnt_nw 0) (fun i _ => d2.burnt_nw i)
      | false =>
        rw [if_neg (show ¬ (false = true) by decide), if_neg (show ¬ (0 : Int) ≠ 0 by decide)]
        refine .fine _ (by omega) (by omega) ok2.burnt.settle (d2.burnt_alive hst2) ⟨rfl, fun i => d2.burnt.settle_pd i⟩ ?_ ?_
        · exact r2.congr (m_congr ok2 ok2.burnt.settle) (d2.burnt_nw 0) (fun i _ => d2.burnt_nw i)
        · show d2.burnt.on = d.on; rw [d2.burnt_on, on1, g.on]

theorem crash_nw {n : Nat} {d : Dev} (ok : d.Ok n) (keep : List Bool) {i : Nat} (hi : i < n) : (d.crash keep).nw i = if d.pd i && !keep.getD (cnt d.pend i) false then d.sr i else d.nw i := by
  unfold Dev.nw Dev.crash crashMid
  simp only
  rw [List.getD_eq_getElem?_getD, List.getElem?_map, List.getElem?_range (by rw [ok.lnow]; exact hi)]
  simp only [Option.map_some, Option.getD_some]
  rw [if_pos (by rw [ok.lnow]; exact hi)]; rfl
theorem crash_clean (d : Dev) (keep : List Bool) : Clean (d.crash keep) := ⟨rfl, fun _ => getD_replicate_false' _ _⟩
theorem half_lt {n : Nat} {d : Dev} (ok : d.Ok n) {h i : Nat} (hh : h ≤ 1) (hi : inHalf d h i) : i < n := by
  have := m_of ok; have := ok.lo
  unfold inHalf at hi
  rcases (by omega : h = 0 ∨ h = 1) with rfl | rfl
  · simp only [Nat.zero_mul] at hi; omega
  · simp only [Nat.one_mul] at hi; omega
theorem crash_rep {n : Nat} {d : Dev} {j : Jr} {may : ByteArray} (h : Disk n d j may) (keep : List Bool) : Rep (d.crash keep) j ∨ Rep (d.crash keep) ⟨j.number + 1, 1 - j.half, may⟩ := by
  have hn := h.ok.lo
  have hm : (d.crash keep).m = Dev.m { d with now := d.sure } := m_congr (sure_ok h.ok) (h.ok.crash keep)
  have hm' : Dev.m { d with now := d.sure } = d.m := m_congr h.ok (sure_ok h.ok)
  have hh := h.rep.half_le
  rcases h.way with w | ⟨w, r⟩
  · refine .inl (h.rep.congr hm ?_ (fun i hi => ?_))
    · rw [crash_nw h.ok keep (by omega), w 0 (.inl rfl)]; exact h.same 0 (w 0 (.inl rfl))
    · have hi' : inHalf d j.half i := by unfold inHalf at *; rw [← hm']; exact hi
      rw [crash_nw h.ok keep (half_lt h.ok hh hi'), w i (.inr hi')]; exact h.same i (w i (.inr hi'))
  · have other : ∀ i, i ≠ 0 → i < n → (d.crash keep).nw i = d.nw i := fun i hi hin => by rw [crash_nw h.ok keep hin, w i hi]; rfl
    have key : ∀ h' i, h' ≤ 1 → inHalf d h' i → i ≠ 0 ∧ i < n := fun h' i hh' hi => ⟨by unfold inHalf at hi; omega, half_lt h.ok hh' hi⟩
    by_cases hk : (d.pd 0 && !keep.getD (cnt d.pend 0) false) = true
    · refine .inl (h.rep.congr hm ?_ (fun i hi => ?_))
      · rw [crash_nw h.ok keep (by omega), if_pos hk]; rfl
      · have hi' : inHalf d j.half i := by unfold inHalf at *; rw [← hm']; exact hi
        obtain ⟨q1, q2⟩ := key _ i hh hi'
        rw [other i q1 q2, h.same i (w i q1)]; rfl
    · refine .inr (r.congr (hm.trans hm') ?_ (fun i hi => ?_))
      · rw [crash_nw h.ok keep (by omega), if_neg hk]
      · obtain ⟨q1, q2⟩ := key _ i (by show 1 - j.half ≤ 1; omega) hi
        exact other i q1 q2
end Go.Proofs.Ytnmgnhhipgiggaa
