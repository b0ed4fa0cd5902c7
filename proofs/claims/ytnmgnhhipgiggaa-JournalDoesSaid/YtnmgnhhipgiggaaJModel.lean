/-
  Layer 20 in plain Lean: what a device and its journal do, as functions on lists. No program in sight.
-/
namespace Go.Proofs.Ytnmgnhhipgiggaa

structure Dev where
  now : List (List UInt8)
  sure : List (List UInt8)
  pend : List Bool
  fuse : Int
  on : Bool
  dead : Bool

def zsec : List UInt8 := List.replicate 32 0
def pad (s : List UInt8) : List UInt8 := s ++ List.replicate (32 - s.length) 0

def Dev.new (n : Nat) : Dev := ⟨List.replicate n zsec, List.replicate n zsec, List.replicate n false, 0, false, false⟩

structure Dev.Ok (n : Nat) (d : Dev) : Prop where
  lo : 3 ≤ n
  hi : n ≤ 65
  lnow : d.now.length = n
  lsure : d.sure.length = n
  lpend : d.pend.length = n
  wnow : ∀ s ∈ d.now, s.length = 32
  wsure : ∀ s ∈ d.sure, s.length = 32
  fuse0 : 0 ≤ d.fuse
  fuse1 : d.fuse ≤ 9223372036854775807

def Dev.stops (d : Dev) : Bool := d.dead || (d.on && d.fuse == 0)
def Dev.burnt (d : Dev) : Dev := if d.stops then { d with dead := true } else { d with fuse := if d.on then d.fuse - 1 else d.fuse }
def Dev.put (d : Dev) (i : Nat) (s : List UInt8) : Dev := { d with now := d.now.set i (pad s), pend := d.pend.set i true }
def Dev.settle (d : Dev) : Dev := { d with sure := d.now, pend := List.replicate d.pend.length false }
def Dev.write (d : Dev) (i : Int) (s : List UInt8) : Dev × Int :=
  if d.dead then (d, 20)
  else if i < 0 ∨ (d.now.length : Int) ≤ i then (d, 5)
  else if 32 < s.length then (d, 4)
  else if d.stops then (d.burnt, 20)
  else (d.burnt.put i.toNat s, 0)
def Dev.barrier (d : Dev) : Dev × Int := if d.stops then (d.burnt, 20) else (d.burnt.settle, 0)
def Dev.read (d : Dev) (i : Int) : List UInt8 := if i < 0 ∨ (d.now.length : Int) ≤ i then [] else d.now.getD i.toNat []
def Dev.setFuse (d : Dev) (n : Int) : Dev := if d.dead then d else { d with fuse := max n 0, on := decide (0 ≤ n) }
/-- how many of the first i sectors are pending -/
def cnt (p : List Bool) (i : Nat) : Nat := (p.take i).countP id
def crashAt (d : Dev) (keep : List Bool) (i : Nat) : List UInt8 :=
  if d.pend.getD i false && !keep.getD (cnt d.pend i) false then d.sure.getD i [] else d.now.getD i []
def crashMid (d : Dev) (keep : List Bool) (j : Nat) : List (List UInt8) := (List.range d.now.length).map fun i => if i < j then crashAt d keep i else d.now.getD i []
def Dev.crash (d : Dev) (keep : List Bool) : Dev :=
  { now := crashMid d keep d.now.length, sure := crashMid d keep d.now.length, pend := List.replicate d.pend.length false, fuse := 0, on := false, dead := false }
def pendTo (p : List Bool) (j : Nat) : List Nat := (List.range j).filter fun i => p.getD i false
def Dev.pending (d : Dev) : List Nat := pendTo d.pend d.pend.length

theorem pad_length (s : List UInt8) (h : s.length ≤ 32) : (pad s).length = 32 := by simp [pad]; omega
theorem zsec_length : zsec.length = 32 := by simp [zsec]

theorem Dev.ok_new (n : Nat) (h : 3 ≤ n) (h' : n ≤ 65) : (Dev.new n).Ok n := by
  refine ⟨h, h', by simp [Dev.new], by simp [Dev.new], by simp [Dev.new], ?_, ?_, by simp [Dev.new], by simp [Dev.new]⟩
  all_goals intro s hs; simp only [Dev.new] at hs; rw [List.eq_of_mem_replicate hs]; exact zsec_length
theorem Dev.Ok.burnt {n : Nat} {d : Dev} (h : d.Ok n) : d.burnt.Ok n := by
  unfold Dev.burnt
  split
  · exact ⟨h.lo, h.hi, h.lnow, h.lsure, h.lpend, h.wnow, h.wsure, h.fuse0, h.fuse1⟩
  · rename_i hs
    have h0 := h.fuse0
    have h1 := h.fuse1
    refine ⟨h.lo, h.hi, h.lnow, h.lsure, h.lpend, h.wnow, h.wsure, ?_, ?_⟩ <;> dsimp only <;> split
    · rename_i ho; simp [Dev.stops, ho] at hs; omega
    · exact h0
    · omega
    · exact h1
theorem Dev.Ok.put {n : Nat} {d : Dev} (h : d.Ok n) (i : Nat) (s : List UInt8) (hs : s.length ≤ 32) : (d.put i s).Ok n := by
  refine ⟨h.lo, h.hi, by simp [Dev.put, h.lnow], h.lsure, by simp [Dev.put, h.lpend], ?_, h.wsure, h.fuse0, h.fuse1⟩
  intro x hx
  rcases List.mem_or_eq_of_mem_set hx with hx | rfl
  · exact h.wnow x hx
  · exact pad_length s hs
theorem Dev.Ok.settle {n : Nat} {d : Dev} (h : d.Ok n) : d.settle.Ok n :=
  ⟨h.lo, h.hi, h.lnow, h.lnow, by simp [Dev.settle, h.lpend], h.wnow, h.wnow, h.fuse0, h.fuse1⟩
theorem Dev.Ok.setFuse {n : Nat} {d : Dev} (h : d.Ok n) (m : Int) (hm : m ≤ 9223372036854775807) : (d.setFuse m).Ok n := by
  unfold Dev.setFuse
  split
  · exact h
  · exact ⟨h.lo, h.hi, h.lnow, h.lsure, h.lpend, h.wnow, h.wsure, by dsimp only; omega, by dsimp only; omega⟩
theorem getD_len {l : List (List UInt8)} (h : ∀ s ∈ l, s.length = 32) {i : Nat} (hi : i < l.length) : (l.getD i []).length = 32 := by
  rw [List.getD_eq_getElem?_getD, List.getElem?_eq_getElem hi]; exact h _ (List.getElem_mem hi)
theorem crashAt_len {n : Nat} {d : Dev} (h : d.Ok n) (keep : List Bool) {i : Nat} (hi : i < n) : (crashAt d keep i).length = 32 := by
  unfold crashAt
  split
  · exact getD_len h.wsure (by rw [h.lsure]; exact hi)
  · exact getD_len h.wnow (by rw [h.lnow]; exact hi)
theorem crashMid_len {n : Nat} {d : Dev} (h : d.Ok n) (keep : List Bool) (j : Nat) : ∀ s ∈ crashMid d keep j, s.length = 32 := by
  intro s hs
  simp only [crashMid, List.mem_map, List.mem_range] at hs
  obtain ⟨i, hi, rfl⟩ := hs
  rw [h.lnow] at hi
  split
  · exact crashAt_len h keep hi
  · exact getD_len h.wnow (by rw [h.lnow]; exact hi)
theorem Dev.Ok.crash {n : Nat} {d : Dev} (h : d.Ok n) (keep : List Bool) : (d.crash keep).Ok n :=
  ⟨h.lo, h.hi, by simp [Dev.crash, crashMid, h.lnow], by simp [Dev.crash, crashMid, h.lnow], by simp [Dev.crash, h.lpend], crashMid_len h keep _, crashMid_len h keep _, by simp [Dev.crash], by simp [Dev.crash]⟩

/-- The bytes of sectors, one behind the other. -/
theorem flatten_length {l : List (List UInt8)} (h : ∀ s ∈ l, s.length = 32) : l.flatten.length = 32 * l.length := by
  induction l with
  | nil => rfl
  | cons x r ih => simp [h x (by simp), ih (fun s hs => h s (by simp [hs]))]; omega
theorem flatten_parts (l : List (List UInt8)) (i : Nat) : l.flatten = (l.take i).flatten ++ (l.drop i).flatten := by
  rw [← List.flatten_append, List.take_append_drop]
theorem flatten_take {l : List (List UInt8)} (h : ∀ s ∈ l, s.length = 32) {i : Nat} (hi : i ≤ l.length) : (l.take i).flatten = l.flatten.take (32 * i) := by
  have hl : (l.take i).flatten.length = 32 * i := by
    rw [flatten_length (fun s hs => h s (List.mem_of_mem_take hs)), List.length_take]; omega
  rw [flatten_parts l i, List.take_append_of_le_length (Nat.le_of_eq hl.symm), List.take_of_length_le (Nat.le_of_eq hl)]
theorem flatten_drop {l : List (List UInt8)} (h : ∀ s ∈ l, s.length = 32) {i : Nat} (hi : i ≤ l.length) : (l.drop i).flatten = l.flatten.drop (32 * i) := by
  have hl : (l.take i).flatten.length = 32 * i := by
    rw [flatten_length (fun s hs => h s (List.mem_of_mem_take hs)), List.length_take]; omega
  rw [flatten_parts l i, List.drop_append_of_le_length (Nat.le_of_eq hl.symm), List.drop_of_length_le (Nat.le_of_eq hl), List.nil_append]
theorem flatten_get {l : List (List UInt8)} (h : ∀ s ∈ l, s.length = 32) {i : Nat} (hi : i < l.length) : l.getD i [] = (l.flatten.drop (32 * i)).take 32 := by
  rw [← flatten_drop h (Nat.le_of_lt hi)]
  have : l.drop i = l.getD i [] :: l.drop (i + 1) := by
    rw [List.getD_eq_getElem?_getD, List.getElem?_eq_getElem hi, Option.getD_some, List.getElem_cons_drop]
  rw [this, List.flatten_cons, List.take_append_of_le_length (by rw [getD_len h hi]; exact Nat.le_refl _), List.take_of_length_le (by rw [getD_len h hi]; exact Nat.le_refl _)]
theorem flatten_set {l : List (List UInt8)} (h : ∀ s ∈ l, s.length = 32) {i : Nat} (hi : i < l.length) (x : List UInt8) :
    (l.set i x).flatten = l.flatten.take (32 * i) ++ (x ++ l.flatten.drop (32 * i + 32)) := by
  rw [List.set_eq_take_append_cons_drop, if_pos hi, List.flatten_append, List.flatten_cons, flatten_take h (Nat.le_of_lt hi), flatten_drop h (by omega)]
  rw [show 32 * (i + 1) = 32 * i + 32 from by omega]
theorem cnt_succ (p : List Bool) (j : Nat) (hj : j < p.length) : cnt p (j + 1) = cnt p j + if p.getD j false then 1 else 0 := by
  unfold cnt
  rw [List.take_succ_eq_append_getElem hj, List.countP_append, List.getD_eq_getElem?_getD, List.getElem?_eq_getElem hj]
  cases p[j] <;> simp
theorem cnt_le (p : List Bool) (j : Nat) : cnt p j ≤ j := by
  unfold cnt
  exact Nat.le_trans List.countP_le_length (by simp; omega)
theorem cnt_zero (p : List Bool) : cnt p 0 = 0 := by simp [cnt]
theorem crashMid_zero (d : Dev) (keep : List Bool) : crashMid d keep 0 = d.now := by
  unfold crashMid
  apply List.ext_getElem
  · simp
  · intro i h1 h2; simp [List.getElem?_eq_getElem h2]
theorem crashMid_same (d : Dev) (keep : List Bool) (j : Nat) (h : (d.pend.getD j false && !keep.getD (cnt d.pend j) false) = false) : crashMid d keep (j + 1) = crashMid d keep j := by
  unfold crashMid
  apply List.map_congr_left
  intro i _
  by_cases hi : i < j
  · rw [if_pos hi, if_pos (by omega)]
  · rw [if_neg hi]
    by_cases hj : i = j
    · subst hj; rw [if_pos (by omega)]; unfold crashAt; rw [h]; rfl
    · rw [if_neg (by omega)]
theorem crashMid_set (d : Dev) (keep : List Bool) (j : Nat) (h : (d.pend.getD j false && !keep.getD (cnt d.pend j) false) = true) : crashMid d keep (j + 1) = (crashMid d keep j).set j (d.sure.getD j []) := by
  unfold crashMid
  apply List.ext_getElem
  · simp
  · intro i h1 h2
    simp only [List.length_map, List.length_range] at h1
    rw [List.getElem_set]
    simp only [List.getElem_map, List.getElem_range]
    by_cases hj : j = i
    · subst hj; rw [if_pos (by omega), if_pos rfl]; unfold crashAt; rw [h]; rfl
    · rw [if_neg hj]
      by_cases hi : i < j
      · rw [if_pos hi, if_pos (by omega)]
      · rw [if_neg hi, if_neg (by omega)]
/-- The number of a head, its half, its size. -/
def be (l : List UInt8) : Nat := l.foldl (fun x b => x * 256 + b.toNat) 0
def i64of (n : Nat) : Int := if n < 9223372036854775808 then (n : Int) else (n : Int) - 18446744073709551616
def hnum (l : List UInt8) : Int := i64of (be (l.take 8))
def hhalf (l : List UInt8) : Nat := (l.getD 8 0).toNat
def hsize (l : List UInt8) : Nat := (l.getD 9 0).toNat * 256 + (l.getD 10 0).toNat
def Dev.m (d : Dev) : Nat := (d.now.length - 1) / 2
def Dev.areaTo (d : Dev) (h i : Nat) : List UInt8 := (List.range i).flatMap fun i => d.now.getD (1 + h * d.m + i) []
def Dev.area (d : Dev) (h : Nat) : List UInt8 := d.areaTo h d.m
def Dev.hd (d : Dev) : List UInt8 := d.now.getD 0 []
def Dev.bad (d : Dev) : Prop := 1 < hhalf d.hd ∨ d.m * 32 < hsize d.hd
def Dev.text (d : Dev) : List UInt8 := (d.area (hhalf d.hd)).take (hsize d.hd)

theorem be_snoc (l : List UInt8) (c : UInt8) : be (l ++ [c]) = be l * 256 + c.toNat := by simp [be, List.foldl_append]
theorem be_lt (l : List UInt8) : be l < 256 ^ l.length := by
  have key : ∀ (l : List UInt8) (x : Nat), l.foldl (fun x b => x * 256 + b.toNat) x < (x + 1) * 256 ^ l.length := by
    intro l
    induction l with
    | nil => intro x; simp
    | cons c r ih =>
      intro x
      rw [List.foldl_cons, List.length_cons, Nat.pow_succ]
      have h1 := ih (x * 256 + c.toNat)
      have h2 : (x * 256 + c.toNat + 1) * 256 ^ r.length ≤ (x + 1) * 256 * 256 ^ r.length := Nat.mul_le_mul_right _ (by have := c.toNat_lt; omega)
      calc _ < _ := h1
        _ ≤ _ := h2
        _ = _ := by rw [Nat.mul_assoc, Nat.mul_comm 256]
  have := key l 0
  simpa [be] using this
theorem Dev.areaTo_succ (d : Dev) (h i : Nat) : d.areaTo h (i + 1) = d.areaTo h i ++ d.now.getD (1 + h * d.m + i) [] := by
  unfold Dev.areaTo; rw [List.range_succ, List.flatMap_append]; simp
theorem Dev.areaTo_length {n : Nat} {d : Dev} (ok : d.Ok n) (h : Nat) (hh : h ≤ 1) : ∀ i, i ≤ d.m → (d.areaTo h i).length = 32 * i
  | 0, _ => by simp [Dev.areaTo]
  | i + 1, hi => by
    rw [Dev.areaTo_succ, List.length_append, Dev.areaTo_length ok h hh i (by omega), getD_len ok.wnow]
    · omega
    · have : d.m = (d.now.length - 1) / 2 := rfl
      have hm : h * d.m ≤ d.m := by rcases (by omega : h = 0 ∨ h = 1) with rfl | rfl <;> omega
      omega
theorem hsize_lt (l : List UInt8) : hsize l < 65536 := by
  unfold hsize; have := (l.getD 9 0).toNat_lt; have := (l.getD 10 0).toNat_lt; omega
/-- The bytes of a head. -/
def nbyteN (x : Int) (i : Nat) : Nat := (x % 18446744073709551616).toNat / 2 ^ (8 * (7 - i)) % 256
def headBytes (x : Int) (half n : Nat) : List UInt8 := ((List.range 8).map fun i => UInt8.ofNat (nbyteN x i)) ++ [UInt8.ofNat half, UInt8.ofNat (n / 256), UInt8.ofNat n]
theorem headBytes_length (x : Int) (half n : Nat) : (headBytes x half n).length = 11 := by simp [headBytes]

/-- A text is laid into sectors, and made sure. (The first number: rounds, more than enough.) -/
def layF : Nat → Dev → Nat → List UInt8 → Dev × Int
  | 0, d, _, _ => d.barrier
  | k + 1, d, a, s =>
    if s.length = 0 then d.barrier
    else if (d.write a (s.take 32)).2 = 0 then layF k (d.write a (s.take 32)).1 (a + 1) (s.drop 32) else d.write a (s.take 32)
def Dev.lay (d : Dev) (a : Nat) (s : List UInt8) : Dev × Int := layF (s.length + 1) d a s
theorem layF_two : ∀ (k m : Nat) (d : Dev) (a : Nat) (s : List UInt8), s.length < k → s.length < m → layF k d a s = layF m d a s := by
  intro k
  induction k with
  | zero => intro m d a s h; omega
  | succ k ih =>
    intro m d a s h hm
    obtain ⟨m, rfl⟩ : ∃ m', m = m' + 1 := ⟨m - 1, by omega⟩
    rw [layF, layF]
    by_cases h0 : s.length = 0
    · rw [if_pos h0, if_pos h0]
    · rw [if_neg h0, if_neg h0]
      split
      · exact ih m _ _ _ (by rw [List.length_drop]; omega) (by rw [List.length_drop]; omega)
      · rfl
theorem layF_fuel (k : Nat) (d : Dev) (a : Nat) (s : List UInt8) (h : s.length < k) : layF k d a s = d.lay a s := layF_two _ _ _ _ _ h (by omega)
theorem lay_pos (d : Dev) (a : Nat) (s : List UInt8) (h : 0 < s.length) : d.lay a s = if (d.write a (s.take 32)).2 = 0 then Dev.lay (d.write a (s.take 32)).1 (a + 1) (s.drop 32) else d.write a (s.take 32) := by
  conv => lhs; unfold Dev.lay
  rw [layF, if_neg (by omega)]
  split
  · exact layF_fuel _ _ _ _ (by rw [List.length_drop]; omega)
  · rfl
theorem lay_nil (d : Dev) (a : Nat) (s : List UInt8) (h : s.length = 0) : d.lay a s = d.barrier := by
  unfold Dev.lay; rw [layF, if_pos h]

structure Jr where
  number : Int
  half : Nat
  text : ByteArray

/-- 'Commit': the device, the answer, the journal. -/
def commit (d : Dev) (j : Jr) (s : ByteArray) : Dev × Int × Jr :=
  if d.dead then (d, 20, j)
  else if d.m * 32 < s.size then (d, 4, j)
  else if 4611686018427387904 ≤ j.number then (d, 3, j)
  else
    let a := d.lay (1 + (1 - j.half) * d.m) s.data.toList
    if a.2 ≠ 0 then (a.1, a.2, j)
    else
      let b := a.1.write 0 (headBytes (j.number + 1) (1 - j.half) s.size)
      if b.2 ≠ 0 then (b.1, b.2, j)
      else
        let c := b.1.barrier
        if c.2 ≠ 0 then (c.1, c.2, j) else (c.1, 0, ⟨j.number + 1, 1 - j.half, s⟩)
theorem Dev.Ok.write {n : Nat} {d : Dev} (h : d.Ok n) (i : Int) (s : List UInt8) : (d.write i s).1.Ok n := by
  unfold Dev.write
  split
  · exact h
  split
  · exact h
  split
  · exact h
  split
  · exact h.burnt
  · exact h.burnt.put _ _ (by omega)
theorem Dev.Ok.barrier {n : Nat} {d : Dev} (h : d.Ok n) : d.barrier.1.Ok n := by
  unfold Dev.barrier
  split
  · exact h.burnt
  · exact h.burnt.settle
end Go.Proofs.Ytnmgnhhipgiggaa
