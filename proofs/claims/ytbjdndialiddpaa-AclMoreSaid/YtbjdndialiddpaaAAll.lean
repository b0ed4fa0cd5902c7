/-
  Package acl: All, New.
-/
import Derived.Test.YtbjdndialiddpaaARem
namespace Go.Proofs.Ytbjdndialiddpaa
open Go.RowKit Go.Maps

/-- Entries that are the caller's own: each set lies in a row of its own. -/
structure OwnE (w : World) (base : Nat) (va : Value) (E : List (Int × Value)) (L : List BEnt) : Prop where
  row : w.ownsRow base 36 2 va E.length (ecells E)
  len : E.length = L.length
  ent : ∀ (j : Nat) e x, E[j]? = some e → L[j]? = some x → e.1 = x.1 ∧ w.ownsRow base 40 1 e.2 x.2.length (wcells x.2)
  ap : ∀ (i j : Nat) e f, i < j → E[i]? = some e → E[j]? = some f → Apart e.2 f.2
  apr : ∀ (j : Nat) e, E[j]? = some e → Apart e.2 va
theorem ownE_nil (w : World) (base : Nat) : OwnE w base (.slice none 0 0) [] [] :=
  ⟨World.ownsRow_nil _ _ _ _, rfl, fun j e x h => by simp at h, fun i j e f _ h => by simp at h, fun j e h => by simp at h⟩
theorem OwnE.chg {S : Nat → Prop} {w w' : World} {base : Nat} {va : Value} {E : List (Int × Value)} {L : List BEnt} (h : OwnE w base va E L) (hc : Chg S w w') (hs : ∀ k, base ≤ k → k < w.heap.size → ¬ S k) : OwnE w' base va E L :=
  ⟨own_chg h.row hc (fun k hk => hs k (h.row.lt k hk).1 (h.row.lt k hk).2), h.len, fun j e x h1 h2 => ⟨(h.ent j e x h1 h2).1, own_chg (h.ent j e x h1 h2).2 hc (fun k hk => hs k ((h.ent j e x h1 h2).2.lt k hk).1 ((h.ent j e x h1 h2).2.lt k hk).2)⟩, h.ap, h.apr⟩
theorem OwnE.one {w : World} {base : Nat} {va : Value} {E : List (Int × Value)} {L : List BEnt} (h : OwnE w base va E L) : ∀ e ∈ E, e.2.oneCell' = true := by
  intro e he
  obtain ⟨j, hj⟩ := List.mem_iff_getElem?.1 he
  have hl := (List.getElem?_eq_some_iff.1 hj).1
  obtain ⟨_, q⟩ := h.ent j e _ hj (List.getElem?_eq_getElem (by rw [← h.len]; exact hl))
  obtain ⟨a, c, e2⟩ := own_shape q
  rw [e2]; rfl
theorem OwnE.up {w : World} {base : Nat} {va : Value} {E : List (Int × Value)} {L : List BEnt} (h : OwnE w base va E L) (hs : ∀ x ∈ L, ∀ s ∈ x.2, s.size ≤ maxLen) : EntsAt w va (fun k => base ≤ k ∧ k < w.heap.size) L := by
  refine entsAt_own h.row ⟨h.len, fun j e x h1 h2 => ⟨(h.ent j e x h1 h2).1, ?_⟩⟩ (fun k hk => h.row.lt k hk)
  exact (setAt_own (h.ent j e x h1 h2).2 (hs x (List.mem_of_getElem? h2))).up (fun k hk => (h.ent j e x h1 h2).2.lt k hk)
/-- One entry more. -/
theorem OwnE.snoc {w w1 w2 : World} {base : Nat} {va v va' : Value} {E : List (Int × Value)} {L : List BEnt} {x : BEnt} (h : OwnE w base va E L)
    (hc : Chg (fun _ => False) w w1) (ho : w1.ownsRow w.heap.size 40 1 v x.2.length (wcells x.2)) (hb : base ≤ w.heap.size)
    (hr : w2.ownsRow base 36 2 va' (E.length + 1) (ecells E ++ [.int .i64 x.1, v])) (hg : w1.grownBy w2 va.ownBlock) (hs : SameOrNew w1 va va') : OwnE w2 base va' (E ++ [(x.1, v)]) (L ++ [x]) := by
  have kg := Chg.of_grown hg
  have hold : ∀ (j : Nat) e y, E[j]? = some e → L[j]? = some y → e.1 = y.1 ∧ w2.ownsRow base 40 1 e.2 y.2.length (wcells y.2) := fun j e y h1 h2 => by
    obtain ⟨q1, q2⟩ := h.ent j e y h1 h2
    exact ⟨q1, own_chg (own_chg q2 hc (fun _ _ e => e)) kg (fun k hk e' => h.apr j e h1 k hk e')⟩
  have hnew : w2.ownsRow w.heap.size 40 1 v x.2.length (wcells x.2) := own_chg ho kg (fun k hk e' => by
    have := (h.row.lt k e').2
    have := (ho.lt k hk).1
    omega)
  have hget : ∀ (j : Nat) e, (E ++ [(x.1, v)])[j]? = some e → (E[j]? = some e ∧ j < E.length) ∨ (j = E.length ∧ e = (x.1, v)) := fun j e hj => by
    rcases Nat.lt_or_ge j E.length with q | q
    · rw [List.getElem?_append_left q] at hj
      exact .inl ⟨hj, q⟩
    · rw [List.getElem?_append_right q] at hj
      have := (List.getElem?_eq_some_iff.1 hj).1
      simp at this
      have hj0 : j - E.length = 0 := by omega
      rw [hj0] at hj
      simp at hj
      exact .inr ⟨by omega, hj.symm⟩
  have hoe : ∀ (j : Nat) e, E[j]? = some e → ∀ k, e.2.ownBlock = some k → k < w.heap.size := fun j e hj k hk => by
    have hl := (List.getElem?_eq_some_iff.1 hj).1
    exact ((h.ent j e _ hj (List.getElem?_eq_getElem (by rw [← h.len]; exact hl))).2.lt k hk).2
  refine ⟨?_, by simp [h.len], fun j e y h1 h2 => ?_, fun i j e f hij h1 h2 => ?_, fun j e h1 => ?_⟩
  · rw [ecells_append, List.length_append]; exact hr
  · rcases hget j e h1 with ⟨q, ql⟩ | ⟨rfl, rfl⟩
    · rw [List.getElem?_append_left (by rw [← h.len]; exact ql)] at h2
      exact hold j e y q h2
    · rw [List.getElem?_append_right (by rw [h.len]; exact Nat.le_refl _), h.len, Nat.sub_self] at h2
      simp at h2
      subst h2
      exact ⟨rfl, own_base hnew hb⟩
  · rcases hget j f h2 with ⟨q, ql⟩ | ⟨rfl, rfl⟩
    · rcases hget i e h1 with ⟨q', ql'⟩ | ⟨rfl, rfl⟩
      · exact h.ap i j e f hij q' q
      · omega
    · rcases hget i e h1 with ⟨q', ql'⟩ | ⟨rfl, rfl⟩
      · intro k hk e'
        have := hoe i e q' k hk
        have := (ho.lt k e').1
        omega
      · omega
  · intro k hk e'
    rcases hs with hs | hs
    · rw [hs] at e'
      rcases hget j e h1 with ⟨q, ql⟩ | ⟨rfl, rfl⟩
      · exact h.apr j e q k hk e'
      · have := (h.row.lt k e').2
        have := (ho.lt k hk).1
        omega
    · have h3 := hs k e'
      rcases hget j e h1 with ⟨q, ql⟩ | ⟨rfl, rfl⟩
      · have := hoe j e q k hk
        have := hc.size
        omega
      · have := (ho.lt k hk).2
        omega
def AllRes (w : World) (L : List BEnt) (e : Ending) (w' : World) : Prop := ∃ va E, e = .returned va ∧ OwnE w' w.heap.size va E L ∧ Chg (fun _ => False) w w'
set_option maxHeartbeats 2000000 in
set_option maxRecDepth 100000 in
theorem lall_any (w : World) (b : Nat) (ty : TypeId) (L : List BEnt) (ver : Nat) (G : Nat → Prop) (hl : ListAt w b ty G L ver) (hok : LOk L) :
    Calls Try.prog 16 #[.pointer (some ⟨b, 0, none⟩)] w (AllRes w L) := by
  obtain ⟨la, cap, h1, h2, hcap, hcm⟩ := hl.open
  have hL := hok.few
  have HOK := Lib.hid hok
  have H2 := Lib.hid h2
  have c0 : w.cell? ⟨b, 0, none⟩ = some (.slice la L.length cap) := cell_of h1 rfl
  clear hl h1 h2 hok
  unfold maxLen at hcm
  go_enter Try.func16, Try.ntmps16
  go_wp2
  go_loopw [3, 11] (fun rv iv wr => ∃ (k : Nat), k ≤ L.length ∧ iv = .int .i64 k ∧ Hid ((∃ E, OwnE wr w.heap.size rv E (L.take k)) ∧ Chg (fun _ => False) w wr)) (fun _ iv _ => L.length - (intOf iv).toNat)
  case atStart => exact ⟨0, by omega, rfl, Lib.hid ⟨⟨_, ownE_nil _ _⟩, Chg.refl _ _⟩⟩
  case round =>
    obtain ⟨k, hk, rfl, HI⟩ := hrel
    by_cases hlt : k < L.length
    · obtain ⟨x, hx⟩ : ∃ x, L[k]? = some x := ⟨_, List.getElem?_eq_getElem hlt⟩
      obtain ⟨⟨E, hE⟩, hc⟩ := HI.out
      obtain ⟨g, o, sa, sc, rfl, _, d0, d1, hs⟩ := (H2.out.chg hc (fun _ _ e => e)).get hx
      obtain ⟨ra, rc, rfl⟩ := own_shape hE.row
      obtain ⟨hs1, hs2⟩ := setB_len (entB_iff.1 (HOK.out.may x (List.mem_of_getElem? hx))).2
      have HE := Lib.hid hE
      have HC := Lib.hid hc
      have TK := Lib.hid (show L.take (k + 1) = L.take k ++ [x] by rw [List.take_add_one, hx]; rfl)
      have hEl : E.length ≤ 12 := by have := hE.len; rw [List.length_take] at this; omega
      have k1 := chg_alloc (fun _ => False) wr (.cells #[.int .i64 x.1, .slice sa x.2.length sc] 36)
      have CL := Lib.hid (eclone_any (wr.alloc (.cells #[.int .i64 x.1, .slice sa x.2.length sc] 36)) x sa x.2.length sc G (hs.chg k1 (fun _ _ e => e)) hs1 (by omega))
      have hsz := hc.size
      clear HI hE hc hs hx hs1 k1
      obtain ⟨op, l⟩ := x
      simp only at d0 d1 CL TK hs2
      go_wp2_with fail
      (with_reducible refine (CL.out).mono ?_)
      rintro e w4 ⟨v4, rfl, o4, k4⟩
      obtain ⟨a4, c4, rfl⟩ := own_shape o4
      have ka := chg_alloc (fun _ => False) wr (.cells #[.int .i64 op, .slice sa l.length sc] 36)
      have E4 := Lib.hid ((HE.out.chg ka (fun _ _ _ e => e)).chg k4 (fun _ _ _ e => e))
      have K4 := Lib.hid (ka.trans k4)
      have O4 := Lib.hid (own_base (base' := wr.heap.size) o4 (by simp))
      have B4 := Lib.hid (obj_alloc_new w4 (.cells #[.int .i64 op, .slice a4 l.length c4] 36))
      have hb4 : wr.heap.size ≤ w4.heap.size := K4.out.size
      clear o4 k4 ka CL d0 d1
      have kb := chg_alloc (fun _ => False) w4 (.cells #[.int .i64 op, .slice a4 l.length c4] 36)
      have E5 := Lib.hid (E4.out.chg kb (fun _ _ _ e => e))
      have O5 := Lib.hid (own_chg O4.out kb (fun _ _ e => e))
      have K5 := Lib.hid (K4.out.trans kb)
      clear kb E4 O4 K4
      go_wp2_with (at_builtin; refine wpList_pushF rfl (.tmp 15) (.tmp 18) 22 rfl 36 2 32 Try.underlying22 Try.elemEntry w.heap.size _ E.length (ecells E) rfl ?a1 w4.heap.size [.int .i64 op, .slice a4 l.length c4] 36 (0, 0) rfl ?a2 rfl ?a3 ?a4 ?a5 ?a6 ?a7)
      case a1 => exact E5.out.row
      case a2 => exact B4.out
      case a3 => intro u hu; simp at hu; rcases hu with rfl | rfl <;> rfl
      case a4 => omega
      case a5 => unfold maxLen; omega
      case a6 => simp; omega
      intro v6 w6 o6 g6 s6
      have E6 := Lib.hid (show OwnE w6 w.heap.size v6 (E ++ [(op, Value.slice a4 l.length c4)]) (L.take k ++ [(op, l)]) from HE.out.snoc (x := (op, l)) K5.out O5.out hsz o6 g6 s6)
      have K6 := Lib.hid (show Chg (fun _ => False) w w6 from (HC.out.trans K5.out).next (Chg.of_grown g6) (fun x hx e => by have := (E5.out.row.lt x e).1; omega))
      clear o6 g6 s6 E5 O5 K5 B4 HE HC
      obtain ⟨a6, c6, rfl⟩ := own_shape E6.out.row
      go_wp2
      go_roundw
      case rel => exact ⟨k + 1, by omega, by go_num, Lib.hid ⟨⟨_, by rw [TK.out]; exact E6.out⟩, K6.out⟩⟩
      case measure => simp [intOf]; omega
    · obtain rfl : k = L.length := by omega
      obtain ⟨⟨E, hE⟩, hc⟩ := HI.out
      rw [List.take_length] at hE
      have HE := Lib.hid hE
      have HC := Lib.hid hc
      obtain ⟨ra, rc, rfl⟩ := own_shape hE.row
      clear hE hc HI
      go_wp2
      go_ret
      exact ⟨_, E, rfl, HE.out, HC.out⟩
end Go.Proofs.Ytbjdndialiddpaa
