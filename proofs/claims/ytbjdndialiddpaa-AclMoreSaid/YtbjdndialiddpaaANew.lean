/-
  Package acl: New.
-/
import Derived.Test.YtbjdndialiddpaaAAll
namespace Go.Proofs.Ytbjdndialiddpaa
open Go.RowKit Go.Maps

def NewG (w w' : World) (b : Nat) (k : Nat) : Prop := w.heap.size ≤ k ∧ k < w'.heap.size ∧ k ≠ b
def NewRes (w : World) (ty : TypeId) (l : List BEnt) (e : Ending) (w' : World) : Prop :=
  (newE [] l = 0 → ∃ b, e = .returned (.tuple #[.pointer (some ⟨b, 0, none⟩), .int .i64 0]) ∧ w.heap.size ≤ b ∧ ListAt w' b ty (NewG w w' b) l 0) ∧
  (newE [] l ≠ 0 → e = .returned (.tuple #[.pointer none, .int .i64 (newE [] l)])) ∧ Chg (fun _ => False) w w'
structure NewIn (w : World) (ty : TypeId) (l : List BEnt) (k : Nat) (wr : World) : Prop where
  lst : ListAt wr w.heap.size ty (NewG w wr w.heap.size) (l.take k) k
  chg : Chg (fun _ => False) w wr
  err : newE [] l = newE (l.take k) (l.drop k)
theorem newIn_start (w : World) (ty : TypeId) (l : List BEnt) : NewIn w ty l 0 (w.alloc (.cells #[.slice none 0 0, .int .i64 0] ty)) :=
  ⟨⟨⟨_, obj_alloc_new w _, by rw [List.take_zero]; exact entsAt_nil _ _⟩, fun h => h.2.2 rfl⟩, chg_alloc _ _ _, by rw [List.take_zero, List.drop_zero]⟩
theorem NewIn.next {w wr w' : World} {ty : TypeId} {l : List BEnt} {k : Nat} {x : BEnt} {e : Ending} (h : NewIn w ty l k wr) (hx : l[k]? = some x) (h0 : addE x (l.take k) = 0) (hc : Chg (fun _ => False) wr w') {w2 : World} (hr : AddRes w' w.heap.size ty (NewG w wr w.heap.size) (addE x (l.take k)) (addL x (l.take k)) k e w2) : NewIn w ty l (k + 1) w2 := by
  obtain ⟨_, h2, h3⟩ := hr
  have hw := h.lst.lt
  have hw2 := hc.size
  have hw3 := h3.size
  have hs := h.chg.size
  refine ⟨?_, (h.chg.trans hc).next h3 (fun k hk e => by omega), ?_⟩
  · unfold addL verN at h2
    rw [if_pos h0, if_pos h0] at h2
    rw [show l.take (k + 1) = l.take k ++ [x] by rw [List.take_add_one, hx]; rfl]
    refine h2.up (fun q hq => ?_) (fun h => h.2.2 rfl)
    rcases hq with ⟨q1, q2, q3⟩ | hq
    · exact ⟨q1, by omega, q3⟩
    · exact ⟨by omega, hq.2, by omega⟩
  · rw [h.err, newE_step hx, if_pos h0]
theorem NewIn.err_of {w wr : World} {ty : TypeId} {l : List BEnt} {k : Nat} {x : BEnt} (h : NewIn w ty l k wr) (hx : l[k]? = some x) (h0 : addE x (l.take k) ≠ 0) : newE [] l = addE x (l.take k) := by
  rw [h.err, newE_step hx, if_neg h0]
theorem newRes_bad {w w' w2 : World} {ty : TypeId} {l : List BEnt} {k : Int} (he : newE [] l = k) (hk : k ≠ 0) (hc : Chg (fun _ => False) w w') (hc2 : Chg (fun x => w.heap.size ≤ x) w' w2) : NewRes w ty l (.returned (.tuple #[.pointer none, .int .i64 k])) w2 :=
  ⟨fun h => absurd (he ▸ h) hk, fun _ => by rw [he], hc.next hc2 (fun x hx e => by omega)⟩
theorem newRes_good {w wr : World} {ty : TypeId} {l : List BEnt} (h : NewIn w ty l l.length wr) : NewRes w ty l (.returned (.tuple #[.pointer (some ⟨w.heap.size, 0, none⟩), .int .i64 0])) (wr.setCell ⟨w.heap.size, 1, none⟩ (.int .i64 0)) := by
  have he := h.err
  rw [List.drop_length] at he
  have hl := h.lst
  rw [List.take_length] at hl
  obtain ⟨⟨es, h1, h2⟩, h3⟩ := hl
  have k8 := chg_cell wr w.heap.size 1 (.int .i64 0)
  have hsz : (wr.setCell ⟨w.heap.size, 1, none⟩ (.int .i64 0)).heap.size = wr.heap.size := by simp [World.setCell]
  refine ⟨fun _ => ⟨_, rfl, Nat.le_refl _, ⟨⟨es, obj_setCell (o := 1) h1 _, ?_⟩, fun h => h.2.2 rfl⟩⟩, fun h => absurd he h, h.chg.next k8 (fun x hx e => by omega)⟩
  refine (h2.chg k8 (fun k hk e => hk.2.2 e)).up (fun k hk => ⟨hk.1, by rw [hsz]; exact hk.2.1, hk.2.2⟩)
set_option maxHeartbeats 2000000 in
set_option maxRecDepth 100000 in
theorem lnew_any (w : World) (v : Value) (l : List BEnt) (G : Nat → Prop) (hl : EntsAt w v G l) (hlen : l.length ≤ 1000) :
    Calls Try.prog 10 #[v] w (NewRes w 70 l) := by
  obtain ⟨la, cap, rfl, hcap, hcm⟩ := hl.shape
  have HL := Lib.hid hl
  clear hl
  unfold maxLen at hcm
  go_enter Try.func10, Try.ntmps10
  go_wp2
  go_loopw [12] (fun iv wr => ∃ (k : Nat), k ≤ l.length ∧ iv = .int .i64 k ∧ Hid (NewIn w 70 l k wr)) (fun iv _ => l.length - (intOf iv).toNat)
  case atStart => exact ⟨0, by omega, rfl, Lib.hid (newIn_start _ _ _)⟩
  case round =>
    obtain ⟨k, hk, rfl, HI⟩ := hrel
    have hwb := HI.out.lst.lt
    by_cases hlt : k < l.length
    · obtain ⟨x, hx⟩ : ∃ x, l[k]? = some x := ⟨_, List.getElem?_eq_getElem hlt⟩
      obtain ⟨g, o, sa, sc, rfl, _, d0, d1, hs⟩ := (HL.out.chg HI.out.chg (fun _ _ e => e)).get hx
      have ka := chg_alloc (fun _ => False) wr (.cells #[.int .i64 x.1, .slice sa x.2.length sc] 36)
      have AD := Lib.hid (add_any (wr.alloc (.cells #[.int .i64 x.1, .slice sa x.2.length sc] 36)) w.heap.size 70 x (l.take k) k sa x.2.length sc _ G (HI.out.lst.chg ka (fun e => e) (fun _ _ e => e)) (by omega) (hs.chg ka (fun _ _ e => e)))
      have NX := Lib.hid (fun h0 w2 e hr => HI.out.next (e := e) hx h0 ka (w2 := w2) hr)
      have ER := Lib.hid (fun h0 => HI.out.err_of hx h0)
      have KC := Lib.hid (HI.out.chg.trans ka)
      have hb1 := HI.out.chg.size
      clear HI hs hx ka
      generalize hk : addE x (l.take k) = ek at *
      have HEK := Lib.hid hk
      obtain ⟨op, ls⟩ := x
      simp only at d0 d1 AD NX
      by_cases h0 : ek = 0
      · have NX2 := Lib.hid (NX.out h0)
        subst h0
        clear NX ER hk
        go_wp2_with fail
        (with_reducible refine (AD.out).mono ?_)
        rintro e w4 hr
        have N4 := Lib.hid (NX2.out w4 e hr)
        obtain ⟨rfl, _, _⟩ := hr
        clear AD NX2
        go_wp2
        go_roundw
        case rel => exact ⟨k + 1, by omega, by go_num, N4⟩
        case measure => simp [intOf]; omega
      · have ER2 := Lib.hid (ER.out h0)
        have g1 : (ek != 0) = true := by rw [bne_iff_ne]; exact h0
        have g2 : (ek == 0) = false := by rw [beq_eq_false_iff_ne]; exact h0
        have H0 := Lib.hid h0
        clear NX ER h0 hk
        go_wp2_with fail
        (with_reducible refine (AD.out).mono ?_)
        rintro e w4 ⟨rfl, _, k4⟩
        have K4 := Lib.hid k4
        clear k4 AD
        go_wp2
        go_ret2
        exact newRes_bad ER2.out H0.out KC.out (K4.out.mono (fun x _ e => by omega))
    · obtain rfl : k = l.length := by omega
      obtain ⟨⟨es, h1, h2⟩, h3⟩ := HI.out.lst
      have f1 := frozen_of (o := 1) h1
      have c1 : wr.cell? ⟨w.heap.size, 1, none⟩ = some (.int .i64 (l.length : Int)) := cell_of h1 rfl
      have FIN := Lib.hid (newRes_good HI.out)
      clear HI h1 h2 h3
      go_wp2
      go_ret2
      exact FIN.out
end Go.Proofs.Ytbjdndialiddpaa
