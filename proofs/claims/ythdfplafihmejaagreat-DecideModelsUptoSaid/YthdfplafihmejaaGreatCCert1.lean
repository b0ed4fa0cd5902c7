/-
  Package cert: isOf, alone, num; package word: Of of one atom; slices.Contains of ints.
-/
import Derived.Test.YthdfplafihmejaaGreatSAt
import Derived.Test.YthdfplafihmejaaGreatKit2
namespace Go.Proofs.YthdfplafihmejaaGreat
open Go.RowKit Go.Maps

/-- A slice of ints. -/
def IntsAt (w : World) (v : Value) (G : Nat → Prop) (l : List Int) : Prop :=
 ∃ la cap, v = .slice la l.length cap ∧ l.length ≤ maxLen ∧ ∀ (j : Nat) x, l[j]? = some x → ∃ g o, la = some ⟨g, o, none⟩ ∧ G g ∧ w.cell? ⟨g, o + j, none⟩ = some (.int .i64 x)
theorem IntsAt.chg {S : Nat → Prop} {w w' : World} {v : Value} {G : Nat → Prop} {l : List Int} (h : IntsAt w v G l) (hc : Chg S w w') (hs : ∀ k, G k → ¬ S k) : IntsAt w' v G l := by
 obtain ⟨la, cap, h1, h2, h3⟩ := h
 exact ⟨la, cap, h1, h2, fun j x hj => by obtain ⟨g, o, q1, q2, q3⟩ := h3 j x hj; exact ⟨g, o, q1, q2, cell_chg hc (hs g q2) q3⟩⟩
theorem intsAt_lit (w : World) (l : List Int) (ty : TypeId) (hl : l.length ≤ 1000) : IntsAt (w.alloc (.cells (l.map (Value.int .i64)).toArray ty)) (.slice (some ⟨w.heap.size, 0, none⟩) l.length l.length) (fun k => k = w.heap.size) l :=
 ⟨_, _, rfl, by unfold maxLen; omega, fun j x hj => ⟨_, 0, rfl, rfl, by
  rw [Nat.zero_add]
  exact cell_of (obj_alloc_new _ _) (by simp [hj])⟩⟩
set_option maxRecDepth 100000 in
theorem indexI_any (w : World) (v : Value) (G : Nat → Prop) (l : List Int) (x : Int) (hv : IntsAt w v G l) :
  Calls Tryz.prog 131 #[v, .int .i64 x] w fun e w' => (∃ i : Int, e = .returned (.int .i64 i) ∧ decide (0 ≤ i) = decide (x ∈ l)) ∧ w = w' := by
 obtain ⟨la, cap, rfl, hl0, hcl⟩ := hv
 have HCL := Lib.hid hcl
 unfold maxLen at hl0
 clear hcl
 go_enter Tryz.func131, Tryz.ntmps131
 go_wp2
 go_loop [8] (fun iv => ∃ k : Nat, k ≤ l.length ∧ iv = .int .i64 k ∧ Hid (x ∉ l.take k)) (fun iv => l.length - (intOf iv).toNat)
 case atStart => exact ⟨0, by omega, rfl, Lib.hid (by simp)⟩
 case round =>
  obtain ⟨k, hk, rfl, HI⟩ := hrel
  by_cases hlt : k < l.length
  ·obtain ⟨y, hy⟩ : ∃ y, l[k]? = some y := ⟨_, List.getElem?_eq_getElem hlt⟩
   obtain ⟨lb, lo, rfl, _, c0⟩ := HCL.out k y hy
   by_cases hxy : x = y
   ·have R := Lib.hid (show x ∈ l from by rw [hxy]; exact List.mem_of_getElem? hy)
    have e1 : (x == y) = true := beq_iff_eq.2 hxy
    clear HI hy hxy
    go_wp2
    go_ret
    exact ⟨⟨_, rfl, ⟨fun _ => R.out, fun _ => by omega⟩⟩, rfl⟩
   ·have e1 : (x == y) = false := beq_eq_false_iff_ne.2 hxy
    have HI2 := Lib.hid (show x ∉ l.take (k + 1) from by
     rw [List.take_add_one, hy]
     simp only [Option.toList_some, List.mem_append, List.mem_singleton, not_or]
     exact ⟨HI.out, hxy⟩)
    clear HI hy hxy
    go_wp2
    go_round
    case rel => exact ⟨k + 1, by omega, by go_num, HI2⟩
    case measure => simp [intOf]; omega
  ·obtain rfl : k = l.length := by omega
   have R := Lib.hid (show x ∉ l from by have := HI.out; rwa [List.take_length] at this)
   go_wp2
   go_ret
   exact ⟨⟨_, rfl, ⟨fun q => by omega, fun q => (R.out q).elim⟩⟩, rfl⟩
theorem containsI_any (w : World) (v : Value) (G : Nat → Prop) (l : List Int) (x : Int) (hv : IntsAt w v G l) :
  Calls Tryz.prog 111 #[v, .int .i64 x] w fun e w' => e = .returned (.bool (decide (x ∈ l))) ∧ w = w' := by
 have IX := Lib.hid (indexI_any w v G l x hv)
 obtain ⟨la, cap, rfl, hl0, hcl⟩ := hv
 clear hcl
 generalize decide (x ∈ l) = r at *
 go_enter Tryz.func111, Tryz.ntmps111
 go_wp2_with fail
 (with_reducible refine (IX.out).mono ?_)
 rintro e w2 ⟨⟨i, rfl, hi⟩, rfl⟩
 go_wp2
 go_ret
 exact ⟨rfl, rfl⟩
def natI (ks : List Nat) : List Int := ks.map fun (k : Nat) => (k : Int)
theorem natI_mem {ks : List Nat} {a : Nat} : ((a : Int) ∈ natI ks) ↔ a ∈ ks := by
 unfold natI
 rw [List.mem_map]
 constructor
 ·rintro ⟨k, hk, e⟩
  have : k = a := by omega
  rwa [← this]
 ·exact fun h => ⟨a, h, rfl⟩
theorem isOf_any (w : World) (a : Nat) (v : Value) (G : Nat → Prop) (ks : List Nat) (ha : a < 65536) (hv : IntsAt w v G (natI ks)) :
  Calls Tryz.prog 83 #[.int .u16 (a : Nat), v] w fun e w' => e = .returned (.bool (decide (a / 8192 ∈ ks))) ∧ w = w' := by
 have CT := containsI_any w v G (natI ks) ((a / 8192 : Nat) : Int) hv
 rw [show decide (((a / 8192 : Nat) : Int) ∈ natI ks) = decide (a / 8192 ∈ ks) from by rw [decide_eq_decide]; exact natI_mem] at CT
 have e1 : IntKind.i64.wrap (a : Int) = (a : Int) := by rw [IntKind.wrap_i64]; omega
 have e2 : ((a / 8192 : Nat) : Int) = (a : Int) / 8192 := by omega
 rw [e2] at CT
 have CT := Lib.hid CT
 obtain ⟨la, cap, rfl, hl0, hcl⟩ := hv
 clear hcl e2
 generalize decide (a / 8192 ∈ ks) = r at *
 go_enter Tryz.func83, Tryz.ntmps83
 go_wp2_with fail
 (with_reducible refine (CT.out).mono ?_)
 rintro e w2 ⟨rfl, rfl⟩
 go_wp2
 go_ret
 exact ⟨rfl, rfl⟩
theorem alone_any (w : World) (s : ByteArray) (v : Value) (G : Nat → Prop) (ks : List Nat) (hs : s.size ≤ maxLen) (hv : IntsAt w v G (natI ks)) :
  Calls Tryz.prog 113 #[.string s, v] w fun e w' => e = .returned (.bool (aloneB s ks)) ∧ Chg (fun _ => False) w w' := by
 have L1 := Lib.hid (wlen_any w s hs)
 by_cases h1 : alen s.data.toList = 1
 ·have AT := wat_in w s 0 hs (by omega)
  change Calls Tryz.prog 81 #[.string s, .int .i64 0] w _ at AT
  have AT := Lib.hid AT
  have IO := Lib.hid (fun w1 (q : Chg (fun _ => False) w w1) => isOf_any w1 (atomAt s.data.toList 0) v G ks (atomAt_lt _ _) (hv.chg q (fun _ _ e => e)))
  have R := Lib.hid (show aloneB s ks = decide (atomAt s.data.toList 0 / 8192 ∈ ks) from by unfold aloneB; rw [decide_eq_true h1]; rfl)
  rw [h1] at L1
  obtain ⟨la, cap, rfl, hl0, hcl⟩ := hv
  clear hcl h1
  generalize atomAt s.data.toList 0 = a at *
  generalize decide (a / 8192 ∈ ks) = r at *
  go_enter Tryz.func113, Tryz.ntmps113
  go_wp2_with fail
  (with_reducible refine (L1.out).mono ?_)
  rintro e w2 ⟨rfl, rfl⟩
  go_wp2_with fail
  (with_reducible refine (AT.out).mono ?_)
  rintro e w3 ⟨rfl, k3⟩
  have I3 := Lib.hid (IO.out w3 k3)
  go_wp2_with fail
  (with_reducible refine (I3.out).mono ?_)
  rintro e w4 ⟨rfl, rfl⟩
  go_wp2
  go_ret
  exact ⟨by rw [R.out]; rfl, k3⟩
 ·have R := Lib.hid (show aloneB s ks = false from by unfold aloneB; rw [decide_eq_false h1]; rfl)
  have e1 : ((alen s.data.toList : Int) == 1) = false := beq_eq_false_iff_ne.2 (by omega)
  obtain ⟨la, cap, rfl, hl0, hcl⟩ := hv
  clear hcl h1
  go_enter Tryz.func113, Tryz.ntmps113
  go_wp2_with fail
  (with_reducible refine (L1.out).mono ?_)
  rintro e w2 ⟨rfl, rfl⟩
  go_wp2
  go_ret
  exact ⟨by rw [R.out]; rfl, Chg.refl _ _⟩
set_option maxRecDepth 100000 in
theorem num_any (w : World) (v : Value) (G : Nat → Prop) (l : List Int) (hv : IntsAt w v G l) :
  Calls Tryz.prog 84 #[v] w fun e w' => e = .returned (.bool (l.all numB)) ∧ w = w' := by
 obtain ⟨la, cap, rfl, hl0, hcl⟩ := hv
 have HCL := Lib.hid hcl
 unfold maxLen at hl0
 clear hcl
 go_enter Tryz.func84, Tryz.ntmps84
 go_wp2
 go_loop [7] (fun iv => ∃ k : Nat, k ≤ l.length ∧ iv = .int .i64 k ∧ Hid ((l.take k).all numB = true)) (fun iv => l.length - (intOf iv).toNat)
 case atStart => exact ⟨0, by omega, rfl, Lib.hid rfl⟩
 case round =>
  obtain ⟨k, hk, rfl, HI⟩ := hrel
  by_cases hlt : k < l.length
  ·obtain ⟨y, hy⟩ : ∃ y, l[k]? = some y := ⟨_, List.getElem?_eq_getElem hlt⟩
   obtain ⟨lb, lo, rfl, _, c0⟩ := HCL.out k y hy
   by_cases hn : numB y = true
   ·have HI2 := Lib.hid (show (l.take (k + 1)).all numB = true from by
     rw [List.take_add_one, hy, List.all_append, HI.out]
     simp [hn])
    have hn2 : 0 ≤ y ∧ y ≤ 4611686018427387904 := of_decide_eq_true hn
    have g1 : decide (y < 0) = false := decide_eq_false (by omega)
    have g2 : decide (4611686018427387904 < y) = false := decide_eq_false (by omega)
    clear HI hy hn hn2
    go_wp2
    go_round
    case rel => exact ⟨k + 1, by omega, by go_num, HI2⟩
    case measure => simp [intOf]; omega
   ·have R := Lib.hid (show l.all numB = false from by
     rw [List.all_eq_false]
     exact ⟨y, List.mem_of_getElem? hy, hn⟩)
    have hn2 : ¬ (0 ≤ y ∧ y ≤ 4611686018427387904) := fun q => hn (decide_eq_true q)
    clear HI hy hn
    by_cases h0 : y < 0
    ·have g1 : decide (y < 0) = true := decide_eq_true h0
     clear hn2 h0
     go_wp2
     go_ret
     exact ⟨by rw [R.out]; rfl, rfl⟩
    ·have g1 : decide (y < 0) = false := decide_eq_false h0
     have g2 : decide (4611686018427387904 < y) = true := decide_eq_true (by omega)
     clear hn2 h0
     go_wp2
     go_ret
     exact ⟨by rw [R.out]; rfl, rfl⟩
  ·obtain rfl : k = l.length := by omega
   have R := Lib.hid (show l.all numB = true from by have := HI.out; rwa [List.take_length] at this)
   go_wp2
   go_ret
   exact ⟨by rw [R.out]; rfl, rfl⟩
set_option maxRecDepth 100000 in
theorem wof1_any (w : World) (g o cap a : Nat) (ha : a < 65536) (hc : w.cell? ⟨g, o, none⟩ = some (.int .u16 ((a : Nat) : Int))) :
  Calls Tryz.prog 55 #[.slice (some ⟨g, o, none⟩) 1 cap] w fun e w' => e = .returned (.string (atomW a)) ∧ Chg (fun _ => False) w w' := by
 have hmk : ∀ w : World, (Instr.makeSlice 112 (.int .i64 0) (.int .i64 2)).run Tryz.prog w = .ok (.slice (some ⟨w.heap.size, 0, none⟩) 0 2) (w.alloc (.cells #[.int .u8 0, .int .u8 0] 5)) := fun _ => by kernel_rfl
 have HC := Lib.hid hc
 clear hc
 go_enter Tryz.func55, Tryz.ntmps55
 go_wp2
 go_loopw [3, 12] (fun lv iv wr => ∃ k : Nat, k ≤ 1 ∧ iv = .int .i64 k ∧ Hid (wr.ownsRow w.heap.size 5 1 lv (2 * k) (bcells (ofAtoms ([a].take k))) ∧ Chg (fun _ => False) w wr)) (fun _ iv _ => 1 - (intOf iv).toNat)
 case atStart => exact ⟨0, by omega, rfl, Lib.hid ⟨⟨rfl, .inr ⟨w.heap.size, 2, _, rfl, Nat.le_refl _, obj_alloc_new _ _, by omega, by unfold maxLen; omega, rfl, rfl⟩⟩, chg_alloc _ _ _⟩⟩
 case round =>
  obtain ⟨k, hk, rfl, HI⟩ := hrel
  have hsz : w.heap.size ≤ wr.heap.size := HI.out.2.size
  by_cases hlt : k < 1
  ·obtain rfl : k = 0 := by omega
   have c0 := cell_chg HI.out.2 (fun e => e) HC.out
   have O0 := Lib.hid HI.out.1
   have K0 := Lib.hid HI.out.2
   have V1 := Lib.hid (show Value.int .u8 ((a : Int) / 256) = bcell (UInt8.ofNat (a / 256)) from byte_val (a / 256) _ (by omega) (by omega))
   have V2 := Lib.hid (show Value.int .u8 ((a : Int) % 256) = bcell (UInt8.ofNat (a % 256)) from byte_val (a % 256) _ (by omega) (by omega))
   clear HI
   obtain ⟨la, lc, rfl⟩ := own_shape O0.out
   have kb := chg_alloc (fun _ => False) wr (.cells #[.int .u8 ((a : Int) / 256), .int .u8 ((a : Int) % 256)] 5)
   have SU := Lib.hid (show (wr.alloc (.cells #[.int .u8 ((a : Int) / 256), .int .u8 ((a : Int) % 256)] 5)).ownsRow 0 5 1 (.slice (some ⟨wr.heap.size, 0, none⟩) 2 2) 2 [.int .u8 ((a : Int) / 256), .int .u8 ((a : Int) % 256)] from ⟨rfl, .inr ⟨wr.heap.size, 2, _, rfl, Nat.zero_le _, obj_alloc_new _ _, Nat.le_refl _, by unfold maxLen; omega, rfl, rfl⟩⟩)
   have OU := Lib.hid (own_chg O0.out kb (fun _ _ e => e))
   have KU := Lib.hid (K0.out.trans kb)
   clear kb O0 K0
   go_wp2_with (at_builtin; refine wpList_join rfl (.tmp 16) (.tmp 22) 112 rfl 5 1 1 Tryz.underlying112 Tryz.elemByte w.heap.size _ _ _ rfl OU.out 0 _ _ _ rfl SU.out (by intro z hz; simp at hz; rcases hz with rfl | rfl <;> rfl) (by omega) (by unfold maxLen; omega) ?a1 ?nx1)
   case a1 => simp; omega
   intro v5 w5 o5 g5
   have K5 := Lib.hid (KU.out.own OU.out (Chg.of_grown g5))
   rw [V1.out, V2.out] at o5
   have O5 := Lib.hid (show w5.ownsRow w.heap.size 5 1 v5 2 (bcells (ofAtoms [a])) from o5)
   clear o5 g5 OU KU SU V1 V2
   obtain ⟨l5, c5, rfl⟩ := own_shape O5.out
   go_wp2
   go_roundw
   case rel => exact ⟨1, by omega, by go_num, Lib.hid ⟨O5.out, K5.out⟩⟩
   case measure => simp [intOf]
  ·obtain rfl : k = 1 := by omega
   have K1 := Lib.hid HI.out.2
   obtain ⟨ra, rc, rfl, hrl, hcl⟩ := own_get (n := 2) (xs := bcells (ofAtoms [a])) HI.out.1
   obtain ⟨g2, rfl, _, _⟩ := hcl 0 _ (bcells_get (ofAtoms [a]) 0 (by simp [ofAtoms]))
   have hcv := run_convert_bytes_arg (P := Tryz.prog) wr 112 5 Tryz.underlying112 Tryz.underlying5 g2 0 2 rc ((ofAtoms [a]).map fun c => (c.toNat : Int)) (by simp [ofAtoms])
    (fun i hi => by
     obtain ⟨g', e', _, cx⟩ := hcl i _ (bcells_get (ofAtoms [a]) i (by simpa [ofAtoms] using hi))
     cases e'
     rw [Nat.zero_add]; exact cx) 57 Tryz.underlying57
   rw [strOfNums_bytes] at hcv
   clear hcl HI
   go_wp2
   go_ret
   exact ⟨rfl, K1.out⟩
end Go.Proofs.YthdfplafihmejaaGreat
