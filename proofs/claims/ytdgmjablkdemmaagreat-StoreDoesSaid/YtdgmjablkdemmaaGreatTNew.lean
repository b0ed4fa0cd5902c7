/-
  Package store: New, Len, Turn, Get.
  Package store: Get.
  Package store: which, Valid.
  Package store: Valid.
-/
import Derived.Test.YtdgmjablkdemmaaGreatTAt
import Derived.Shelf.SlicesE.DeleteFunc
namespace Go.Proofs.YtdgmjablkdemmaaGreat
open Go.RowKit Go.Maps

theorem MapV.len {P : Program} {k e t : TypeId} {w : World} {b m : Nat} {f : Lit → Option Value} (h : MapV P k w b m f) (ht : P.underlying t = some (.map k e)) (ty : TypeId) : (Builtin.len_ #[t] ty #[.map (some b)]).run P w = .ok (.int .i64 (m : Int)) w := by
  obtain ⟨D, h, hz, q⟩ := h
  have := h.len ht ty
  rwa [hz] at this
def newS (room : Nat) : PStore := ⟨room, 0, 0, []⟩
theorem newS_inv {room : Nat} (h1 : 1 ≤ room) (h2 : room ≤ 200) : PInv (newS room) := ⟨h1, h2, by simp [newS], by simp [newS], by simp [newS], by simp [newS], by simp [newS]⟩
theorem store_made (w : World) (room : Nat) (h1 : 1 ≤ room) (h2 : room ≤ 200) :
    ∃ B, StoreAt ((((w.alloc (.map #[] 0)).alloc (.map #[] 0)).alloc (.map #[] 0)).alloc (.cells #[.int .i64 (room : Int), .int .i64 0, .int .i64 0, .map (some w.heap.size), .map (some (w.heap.size + 1)), .map (some (w.heap.size + 2))] 80)) (w.heap.size + 3) B (newS room) ∧ (∀ k, B k → w.heap.size ≤ k) ∧ Chg (fun _ => False) w ((((w.alloc (.map #[] 0)).alloc (.map #[] 0)).alloc (.map #[] 0)).alloc (.cells #[.int .i64 (room : Int), .int .i64 0, .int .i64 0, .map (some w.heap.size), .map (some (w.heap.size + 1)), .map (some (w.heap.size + 2))] 80)) := by
  have m1 := MapV.made Tryz.prog 3 w
  have m2 := MapV.made Tryz.prog 9 (w.alloc (.map #[] 0))
  have m3 := MapV.made Tryz.prog 23 ((w.alloc (.map #[] 0)).alloc (.map #[] 0))
  have z1 : (w.alloc (.map #[] 0)).heap.size = w.heap.size + 1 := World.size_alloc _ _
  have z2 : ((w.alloc (.map #[] 0)).alloc (.map #[] 0)).heap.size = w.heap.size + 2 := by rw [World.size_alloc, z1]
  have z3 : (((w.alloc (.map #[] 0)).alloc (.map #[] 0)).alloc (.map #[] 0)).heap.size = w.heap.size + 3 := by rw [World.size_alloc, z2]
  rw [z1] at m2
  rw [z2] at m3
  have k1 := chg_alloc (fun _ => False) w (.map #[] 0)
  have k2 := chg_alloc (fun _ => False) (w.alloc (.map #[] 0)) (.map #[] 0)
  have k3 := chg_alloc (fun _ => False) ((w.alloc (.map #[] 0)).alloc (.map #[] 0)) (.map #[] 0)
  have k4 := chg_alloc (fun _ => False) (((w.alloc (.map #[] 0)).alloc (.map #[] 0)).alloc (.map #[] 0)) (.cells #[.int .i64 (room : Int), .int .i64 0, .int .i64 0, .map (some w.heap.size), .map (some (w.heap.size + 1)), .map (some (w.heap.size + 2))] 80)
  have ob := obj_alloc_new (((w.alloc (.map #[] 0)).alloc (.map #[] 0)).alloc (.map #[] 0)) (.cells #[.int .i64 (room : Int), .int .i64 0, .int .i64 0, .map (some w.heap.size), .map (some (w.heap.size + 1)), .map (some (w.heap.size + 2))] 80)
  rw [z3] at ob
  have n1 := ((m1.chg k2 (fun e => e)).chg k3 (fun e => e)).chg k4 (fun e => e)
  have n2 := (m2.chg k3 (fun e => e)).chg k4 (fun e => e)
  have n3 := m3.chg k4 (fun e => e)
  have hz : ((((w.alloc (.map #[] 0)).alloc (.map #[] 0)).alloc (.map #[] 0)).alloc (.cells #[.int .i64 (room : Int), .int .i64 0, .int .i64 0, .map (some w.heap.size), .map (some (w.heap.size + 1)), .map (some (w.heap.size + 2))] 80)).heap.size = w.heap.size + 4 := by rw [World.size_alloc, z3]
  refine ⟨fun k => w.heap.size ≤ k ∧ k < w.heap.size + 4, ⟨⟨w.heap.size + 3, w.heap.size, w.heap.size + 1, w.heap.size + 2⟩, ⟨fun _ => none, fun _ => none, fun _ => none⟩, 0, fun _ => False, rfl, ⟨ob, ⟨n1, fun _ _ => rfl, fun x c hx => ?_, fun _ e => e.elim⟩, ⟨n2, fun _ => rfl⟩, ⟨n3, fun x hx => ?_, fun _ _ => rfl, fun x y v u k hu => ?_⟩, ?_, ?_, ?_, ?_⟩, newS_inv h1 h2, ?_, ?_⟩, fun k hk => hk.1, ((k1.trans k2).trans k3).trans k4⟩
  · obtain ⟨i, _, hi⟩ := get_some hx
    cases hi
  · exact absurd rfl hx
  · cases hu
  · simp only; omega
  · simp only; omega
  · simp only; omega
  · exact Nat.zero_le _
  · rintro k ((e | e | e | e | ⟨x, v, hv, _⟩) | e)
    · simp only at e; omega
    · simp only at e; omega
    · simp only at e; omega
    · simp only at e; omega
    · cases hv
    · exact e.elim
  · intro k hk
    rw [hz]; exact hk.2
set_option maxRecDepth 100000 in
theorem new_bad (w : World) (room : Int) (h : ¬ (1 ≤ room ∧ room ≤ 200)) : Calls Tryz.prog 6 #[.int .i64 room] w fun e w' => e = .returned (.pointer none) ∧ w = w' := by
  by_cases h1 : room < 1
  · have e1 : decide (room < 1) = true := decide_eq_true h1
    clear h
    go_enter Tryz.func6, Tryz.ntmps6
    go_wp2
    go_ret
    exact ⟨rfl, rfl⟩
  · have e1 : decide (room < 1) = false := decide_eq_false h1
    have e2 : decide (200 < room) = true := decide_eq_true (by omega)
    clear h
    go_enter Tryz.func6, Tryz.ntmps6
    go_wp2
    go_ret
    exact ⟨rfl, rfl⟩
set_option maxRecDepth 100000 in
theorem new_ok (w : World) (room : Nat) (h1 : 1 ≤ room) (h2 : room ≤ 200) : Calls Tryz.prog 6 #[.int .i64 (room : Int)] w fun e w' => ∃ b B, e = .returned (.pointer (some ⟨b, 0, none⟩)) ∧ StoreAt w' b B (newS room) ∧ (∀ k, B k → w.heap.size ≤ k) ∧ Chg (fun _ => False) w w' := by
  have e1 : decide ((room : Int) < 1) = false := decide_eq_false (by omega)
  have e2 : decide (200 < (room : Int)) = false := decide_eq_false (by omega)
  have hmm := @run_makeMap Tryz.prog
  have SM := Lib.hid (store_made w room h1 h2)
  go_enter Tryz.func6, Tryz.ntmps6
  go_wp2
  go_ret
  obtain ⟨B, q1, q2, q3⟩ := SM.out
  exact ⟨_, B, rfl, q1, q2, q3⟩
set_option maxRecDepth 100000 in
theorem len_any (w : World) (b : Nat) (B : Nat → Prop) (s : PStore) (h : StoreAt w b B s) : Calls Tryz.prog 23 #[.pointer (some ⟨b, 0, none⟩)] w fun e w' => e = .returned (.int .i64 (s.certs.length : Int)) ∧ w = w' := by
  obtain ⟨L, F, nW, C, rfl, h1, _, _, _⟩ := h
  have c3 : w.cell? ⟨L.b, 3, none⟩ = some (.map (some L.mN)) := cell_of (o := 3) h1.own rfl
  have hm := h1.num.map.len Tryz.underlying76
  clear h1
  go_enter Tryz.func23, Tryz.ntmps23
  go_wp2
  go_ret
  exact ⟨rfl, rfl⟩
set_option maxRecDepth 100000 in
theorem turn_any (w : World) (b : Nat) (B : Nat → Prop) (s : PStore) (h : StoreAt w b B s) : Calls Tryz.prog 24 #[.pointer (some ⟨b, 0, none⟩)] w fun e w' => e = .returned (.int .i64 (s.turn : Int)) ∧ w = w' := by
  obtain ⟨L, F, nW, C, rfl, h1, _, _, _⟩ := h
  have c2 : w.cell? ⟨L.b, 2, none⟩ = some (.int .i64 (s.turn : Int)) := cell_of (o := 2) h1.own rfl
  clear h1
  go_enter Tryz.func24, Tryz.ntmps24
  go_wp2
  go_ret
  exact ⟨rfl, rfl⟩
end Go.Proofs.YtdgmjablkdemmaaGreat

namespace Go.Proofs.YtdgmjablkdemmaaGreat
open Go.RowKit Go.Maps

def GetRes (w : World) (g : Option BCert) (e : Ending) (w' : World) : Prop :=
  ((∃ c v, g = some c ∧ e = .returned (.tuple #[certV c v, .bool true]) ∧ w'.ownsRow w.heap.size 23 1 v c.fr.length (wcells c.fr)) ∨ (g = none ∧ e = .returned (.tuple #[certV zeroC (.slice none 0 0), .bool false]))) ∧ Chg (fun _ => False) w w'
set_option maxHeartbeats 2000000 in
set_option maxRecDepth 100000 in
theorem get_any (w : World) (b : Nat) (B : Nat → Prop) (s : PStore) (x : Int) (h : StoreAt w b B s) (x1 : -9223372036854775808 ≤ x) (x2 : x ≤ 9223372036854775807) :
    Calls Tryz.prog 25 #[.pointer (some ⟨b, 0, none⟩), .int .i64 x] w (GetRes w (s.get x)) := by
  obtain ⟨L, F, nW, C, rfl, h1, hi, _, _⟩ := h
  have ka := chg_alloc (fun _ => False) w (.cells #[.int .i64 0, .int .u16 0, .string ⟨#[]⟩, .slice none 0 0, .int .i64 0, .int .i64 0, .int .i64 0] 34)
  have h2 := h1.chg ka (fun _ _ e => e)
  have c3 : (w.alloc (.cells #[.int .i64 0, .int .u16 0, .string ⟨#[]⟩, .slice none 0 0, .int .i64 0, .int .i64 0, .int .i64 0] 34)).cell? ⟨L.b, 3, none⟩ = some (.map (some L.mN)) := cell_of (o := 3) h2.own rfl
  have HN := Lib.hid h2.num
  have KEY := Lib.hid (ikey_of x x1 x2)
  have HZ := Lib.hid (Tryz.zeroCert)
  have OA := Lib.hid (obj_alloc_new w (.cells #[.int .i64 0, .int .u16 0, .string ⟨#[]⟩, .slice none 0 0, .int .i64 0, .int .i64 0, .int .i64 0] 34))
  have KA := Lib.hid ka
  have hsz : w.heap.size + 1 ≤ (w.alloc (.cells #[.int .i64 0, .int .u16 0, .string ⟨#[]⟩, .slice none 0 0, .int .i64 0, .int .i64 0, .int .i64 0] 34)).heap.size := by rw [World.size_alloc]; omega
  clear h1 h2 ka
  go_enter Tryz.func25, Tryz.ntmps25
  cases hg : s.get x with
  | some c =>
    obtain ⟨i, rfl, hm⟩ := get_some hg
    obtain ⟨sa, sc, hf, hc⟩ := HN.out.someS _ c hg
    have HM := Lib.hid hm
    have hfr0 : 1 ≤ c.fr.length := by
      obtain ⟨q, _⟩ := of_decide_eq_true (certB_may (hi.ok _ hm)).fr
      rwa [lists_len] at q
    obtain ⟨g, o, rfl, _⟩ := hc.set.some (by omega)
    clear hfr0
    clear hm
    have hfr : c.fr.length ≤ 1000 := by
      obtain ⟨_, q, _⟩ := of_decide_eq_true (certB_may (hi.ok _ HM.out)).fr
      rw [lists_len] at q
      exact Nat.le_trans q (by decide)
    clear HM
    obtain ⟨kind, sg, sp, fr, f, t, n⟩ := c
    unfold certV at hf
    simp only at hf hc hfr ⊢
    go_wp2_with (first | (at_lookup; refine wpList_lookV_ok rfl (.tmp 12) (.tmp 13) 76 rfl 3 34 Tryz.intKeyed Tryz.underlying76 _ (HZ.out _) L.mN s.certs.length F.fN rfl HN.out.map _ _ rfl KEY.out (.agg #[.int .i64 kind, .int .u16 (sg : Int), .string sp, .slice (some ⟨g, o, none⟩) fr.length sc, .int .i64 f, .int .i64 t, .int .i64 n]) true (by rw [hf]; rfl) (by rw [hf]; rfl) ?_))
    have kb := chg_alloc (fun _ => False) (w.alloc (.cells #[.int .i64 0, .int .u16 0, .string ⟨#[]⟩, .slice none 0 0, .int .i64 0, .int .i64 0, .int .i64 0] 34)) (.cells #[.int .i64 kind, .int .u16 (sg : Int), .string sp, .slice (some ⟨g, o, none⟩) fr.length sc, .int .i64 f, .int .i64 t, .int .i64 n] 34)
    have ob := obj_alloc (.cells #[.int .i64 kind, .int .u16 (sg : Int), .string sp, .slice (some ⟨g, o, none⟩) fr.length sc, .int .i64 f, .int .i64 t, .int .i64 n] 34) OA.out
    have OB := Lib.hid ob
    have KB := Lib.hid (KA.out.trans kb)
    have hsb : w.heap.size + 1 ≤ ((w.alloc (.cells #[.int .i64 0, .int .u16 0, .string ⟨#[]⟩, .slice none 0 0, .int .i64 0, .int .i64 0, .int .i64 0] 34)).alloc (.cells #[.int .i64 kind, .int .u16 (sg : Int), .string sp, .slice (some ⟨g, o, none⟩) fr.length sc, .int .i64 f, .int .i64 t, .int .i64 n] 34)).heap.size := Nat.le_trans hsz kb.size
    have CL := Lib.hid (cclone_any ((w.alloc (.cells #[.int .i64 0, .int .u16 0, .string ⟨#[]⟩, .slice none 0 0, .int .i64 0, .int .i64 0, .int .i64 0] 34)).alloc (.cells #[.int .i64 kind, .int .u16 (sg : Int), .string sp, .slice (some ⟨g, o, none⟩) fr.length sc, .int .i64 f, .int .i64 t, .int .i64 n] 34)) ⟨kind, sg, sp, fr, f, t, n⟩ g o sc C (hc.set.at_.chg kb (fun _ _ e => e)) hfr)
    unfold certV at CL
    simp only at CL
    clear kb ob hc c3 OA KA HN
    generalize (w.alloc (.cells #[.int .i64 0, .int .u16 0, .string ⟨#[]⟩, .slice none 0 0, .int .i64 0, .int .i64 0, .int .i64 0] 34)).alloc (.cells #[.int .i64 kind, .int .u16 (sg : Int), .string sp, .slice (some ⟨g, o, none⟩) fr.length sc, .int .i64 f, .int .i64 t, .int .i64 n] 34) = wb at *
    (with_reducible refine (CL.out).mono ?_)
    rintro e w3 ⟨v3, rfl, o3, k3⟩
    obtain ⟨a2, c2, rfl⟩ := own_shape o3
    have O3 := Lib.hid o3
    clear o3
    have q := k3.obj (fun e => e) OB.out
    have d0 : w3.cell? ⟨w.heap.size, 0, none⟩ = some (.int .i64 0) := cell_of q rfl
    have e0 := frozen_of (o := 0) q
    have d1 : w3.cell? ⟨w.heap.size, 1, none⟩ = some (.int .u16 0) := cell_of q rfl
    have e1 := frozen_of (o := 1) q
    have d2 : w3.cell? ⟨w.heap.size, 2, none⟩ = some (.string ⟨#[]⟩) := cell_of q rfl
    have e2 := frozen_of (o := 2) q
    have d3 : w3.cell? ⟨w.heap.size, 3, none⟩ = some (.slice none 0 0) := cell_of q rfl
    have e3 := frozen_of (o := 3) q
    have d4 : w3.cell? ⟨w.heap.size, 4, none⟩ = some (.int .i64 0) := cell_of q rfl
    have e4 := frozen_of (o := 4) q
    have d5 : w3.cell? ⟨w.heap.size, 5, none⟩ = some (.int .i64 0) := cell_of q rfl
    have e5 := frozen_of (o := 5) q
    have d6 : w3.cell? ⟨w.heap.size, 6, none⟩ = some (.int .i64 0) := cell_of q rfl
    have e6 := frozen_of (o := 6) q
    have Q := Lib.hid q
    have K3 := Lib.hid (KB.out.trans k3)
    clear q k3 KB CL OB
    have hs3 := O3.out.lt
    have HS3 := Lib.hid hs3
    clear hs3
    go_wp2
    obtain ⟨W, hW⟩ : ∃ W, W = (((((((w3.setCell ⟨w.heap.size, 0, none⟩ (.int .i64 kind)).setCell ⟨w.heap.size, 1, none⟩ (.int .u16 (sg : Int))).setCell ⟨w.heap.size, 2, none⟩ (.string sp)).setCell ⟨w.heap.size, 3, none⟩ (.slice a2 fr.length c2)).setCell ⟨w.heap.size, 4, none⟩ (.int .i64 f)).setCell ⟨w.heap.size, 5, none⟩ (.int .i64 t)).setCell ⟨w.heap.size, 6, none⟩ (.int .i64 n)) := ⟨_, rfl⟩
    rw [← hW]
    obtain ⟨ob, k4⟩ := set7 Q.out (.int .i64 kind) (.int .u16 (sg : Int)) (.string sp) (.slice a2 fr.length c2) (.int .i64 f) (.int .i64 t) (.int .i64 n) W hW
    clear hW
    have z0 : W.cell? ⟨w.heap.size, 0, none⟩ = some (.int .i64 kind) := cell_of ob rfl
    have z1 : W.cell? ⟨w.heap.size, 1, none⟩ = some (.int .u16 (sg : Int)) := cell_of ob rfl
    have z2 : W.cell? ⟨w.heap.size, 2, none⟩ = some (.string sp) := cell_of ob rfl
    have z3 : W.cell? ⟨w.heap.size, 3, none⟩ = some (.slice a2 fr.length c2) := cell_of ob rfl
    have z4 : W.cell? ⟨w.heap.size, 4, none⟩ = some (.int .i64 f) := cell_of ob rfl
    have z5 : W.cell? ⟨w.heap.size, 5, none⟩ = some (.int .i64 t) := cell_of ob rfl
    have z6 : W.cell? ⟨w.heap.size, 6, none⟩ = some (.int .i64 n) := cell_of ob rfl
    refine bodyPost_ret (v := .tuple #[.agg #[.int .i64 kind, .int .u16 (sg : Int), .string sp, .slice a2 fr.length c2, .int .i64 f, .int .i64 t, .int .i64 n], .bool true]) (by simp [results, Tryz.results25, go_sem, z0, z1, z2, z3, z4, z5, z6]) rfl ?_
    refine ⟨.inl ⟨_, _, rfl, rfl, own_base (own_chg O3.out k4 (fun k hk e => by have := (HS3.out k hk).1; omega)) (by omega)⟩, K3.out.next k4 (fun k hk e => by omega)⟩
  | none =>
    have hf := HN.out.noneS _ hg
    go_wp2_with (first | (at_lookup; refine wpList_lookV_ok rfl (.tmp 12) (.tmp 13) 76 rfl 3 34 Tryz.intKeyed Tryz.underlying76 _ (HZ.out _) L.mN s.certs.length F.fN rfl HN.out.map _ _ rfl KEY.out (.agg #[.int .i64 0, .int .u16 0, .string ⟨#[]⟩, .slice none 0 0, .int .i64 0, .int .i64 0, .int .i64 0]) false (by rw [hf]; rfl) (by rw [hf]; rfl) ?_))
    have kb := chg_alloc (fun _ => False) (w.alloc (.cells #[.int .i64 0, .int .u16 0, .string ⟨#[]⟩, .slice none 0 0, .int .i64 0, .int .i64 0, .int .i64 0] 34)) (.cells #[.int .i64 0, .int .u16 0, .string ⟨#[]⟩, .slice none 0 0, .int .i64 0, .int .i64 0, .int .i64 0] 34)
    have ob := obj_alloc (.cells #[.int .i64 0, .int .u16 0, .string ⟨#[]⟩, .slice none 0 0, .int .i64 0, .int .i64 0, .int .i64 0] 34) OA.out
    have OB := Lib.hid ob
    have KB := Lib.hid (KA.out.trans kb)
    have hsb : w.heap.size + 1 ≤ ((w.alloc (.cells #[.int .i64 0, .int .u16 0, .string ⟨#[]⟩, .slice none 0 0, .int .i64 0, .int .i64 0, .int .i64 0] 34)).alloc (.cells #[.int .i64 0, .int .u16 0, .string ⟨#[]⟩, .slice none 0 0, .int .i64 0, .int .i64 0, .int .i64 0] 34)).heap.size := Nat.le_trans hsz kb.size
    have CL := Lib.hid (cclone_nil ((w.alloc (.cells #[.int .i64 0, .int .u16 0, .string ⟨#[]⟩, .slice none 0 0, .int .i64 0, .int .i64 0, .int .i64 0] 34)).alloc (.cells #[.int .i64 0, .int .u16 0, .string ⟨#[]⟩, .slice none 0 0, .int .i64 0, .int .i64 0, .int .i64 0] 34)) zeroC)
    unfold certV zeroC at CL
    simp only [show ((0 : Nat) : Int) = 0 from rfl] at CL
    clear kb ob c3 OA KA HN
    generalize (w.alloc (.cells #[.int .i64 0, .int .u16 0, .string ⟨#[]⟩, .slice none 0 0, .int .i64 0, .int .i64 0, .int .i64 0] 34)).alloc (.cells #[.int .i64 0, .int .u16 0, .string ⟨#[]⟩, .slice none 0 0, .int .i64 0, .int .i64 0, .int .i64 0] 34) = wb at *
    (with_reducible refine (CL.out).mono ?_)
    rintro e w3 ⟨rfl, k3⟩
    have q := k3.obj (fun e => e) OB.out
    have d0 : w3.cell? ⟨w.heap.size, 0, none⟩ = some (.int .i64 0) := cell_of q rfl
    have e0 := frozen_of (o := 0) q
    have d1 : w3.cell? ⟨w.heap.size, 1, none⟩ = some (.int .u16 0) := cell_of q rfl
    have e1 := frozen_of (o := 1) q
    have d2 : w3.cell? ⟨w.heap.size, 2, none⟩ = some (.string ⟨#[]⟩) := cell_of q rfl
    have e2 := frozen_of (o := 2) q
    have d3 : w3.cell? ⟨w.heap.size, 3, none⟩ = some (.slice none 0 0) := cell_of q rfl
    have e3 := frozen_of (o := 3) q
    have d4 : w3.cell? ⟨w.heap.size, 4, none⟩ = some (.int .i64 0) := cell_of q rfl
    have e4 := frozen_of (o := 4) q
    have d5 : w3.cell? ⟨w.heap.size, 5, none⟩ = some (.int .i64 0) := cell_of q rfl
    have e5 := frozen_of (o := 5) q
    have d6 : w3.cell? ⟨w.heap.size, 6, none⟩ = some (.int .i64 0) := cell_of q rfl
    have e6 := frozen_of (o := 6) q
    have Q := Lib.hid q
    have K3 := Lib.hid (KB.out.trans k3)
    clear q k3 KB CL OB
    go_wp2
    obtain ⟨W, hW⟩ : ∃ W, W = (((((((w3.setCell ⟨w.heap.size, 0, none⟩ (.int .i64 0)).setCell ⟨w.heap.size, 1, none⟩ (.int .u16 0)).setCell ⟨w.heap.size, 2, none⟩ (.string ⟨#[]⟩)).setCell ⟨w.heap.size, 3, none⟩ (.slice none 0 0)).setCell ⟨w.heap.size, 4, none⟩ (.int .i64 0)).setCell ⟨w.heap.size, 5, none⟩ (.int .i64 0)).setCell ⟨w.heap.size, 6, none⟩ (.int .i64 0)) := ⟨_, rfl⟩
    rw [← hW]
    obtain ⟨ob, k4⟩ := set7 Q.out (.int .i64 0) (.int .u16 0) (.string ⟨#[]⟩) (.slice none 0 0) (.int .i64 0) (.int .i64 0) (.int .i64 0) W hW
    clear hW
    have z0 : W.cell? ⟨w.heap.size, 0, none⟩ = some (.int .i64 0) := cell_of ob rfl
    have z1 : W.cell? ⟨w.heap.size, 1, none⟩ = some (.int .u16 0) := cell_of ob rfl
    have z2 : W.cell? ⟨w.heap.size, 2, none⟩ = some (.string ⟨#[]⟩) := cell_of ob rfl
    have z3 : W.cell? ⟨w.heap.size, 3, none⟩ = some (.slice none 0 0) := cell_of ob rfl
    have z4 : W.cell? ⟨w.heap.size, 4, none⟩ = some (.int .i64 0) := cell_of ob rfl
    have z5 : W.cell? ⟨w.heap.size, 5, none⟩ = some (.int .i64 0) := cell_of ob rfl
    have z6 : W.cell? ⟨w.heap.size, 6, none⟩ = some (.int .i64 0) := cell_of ob rfl
    refine bodyPost_ret (v := .tuple #[.agg #[.int .i64 0, .int .u16 0, .string ⟨#[]⟩, .slice none 0 0, .int .i64 0, .int .i64 0, .int .i64 0], .bool false]) (by simp [results, Tryz.results25, go_sem, z0, z1, z2, z3, z4, z5, z6]) rfl ?_
    exact ⟨.inr ⟨rfl, rfl⟩, K3.out.next k4 (fun k hk e => by omega)⟩
end Go.Proofs.YtdgmjablkdemmaaGreat

namespace Go.Proofs.YtdgmjablkdemmaaGreat
open Go.RowKit Go.Maps Go.Shelf

/-- What a range over the certificates has collected. -/
structure Coll (s : PStore) (p : BCert → Bool) (l : List Nat) (left : Lit → Bool) : Prop where
  nd : l.Nodup
  sub : ∀ i ∈ l, i ∈ s.which p ∧ left (.int .i64 (i : Int)) = false
  all : ∀ i ∈ s.which p, i ∈ l ∨ left (.int .i64 (i : Int)) = true
theorem Coll.start (s : PStore) (p : BCert → Bool) (left : Lit → Bool) (h : ∀ q ∈ s.certs, left (.int .i64 (q.1 : Int)) = true) : Coll s p [] left :=
  ⟨List.nodup_nil, fun _ h => (List.not_mem_nil h).elim, fun i hi => by
    obtain ⟨c, h1, _⟩ := mem_which.1 hi
    exact .inr (h _ h1)⟩
theorem int_same (x y : Int) : Lit.sameKey (.int .i64 x) (.int .i64 y) = decide (x = y) := by
  simp [Lit.sameKey]
theorem Coll.skip {s : PStore} {p : BCert → Bool} {l : List Nat} {left : Lit → Bool} (h : Coll s p l left) (hi : PInv s) {x : Nat} {c : BCert} (hc : (x, c) ∈ s.certs) (hp : p c = false) :
    Coll s p l (fun z => left z && !z.sameKey (.int .i64 (x : Int))) := by
  refine ⟨h.nd, fun i q => ⟨(h.sub i q).1, by simp [(h.sub i q).2]⟩, fun i q => ?_⟩
  rcases h.all i q with e | e
  · exact .inl e
  · refine .inr ?_
    simp only [e, Bool.true_and, int_same, Bool.not_eq_true', decide_eq_false_iff_not]
    intro e2
    obtain ⟨d, h1, h2⟩ := mem_which.1 q
    have := hi.num_inj h1 hc (by simp only; omega)
    simp only [Prod.mk.injEq] at this
    rw [this.2, hp] at h2
    cases h2
theorem Coll.take {s : PStore} {p : BCert → Bool} {l : List Nat} {left : Lit → Bool} (h : Coll s p l left) {x : Nat} {c : BCert} (hc : (x, c) ∈ s.certs) (hp : p c = true) (hl : left (.int .i64 (x : Int)) = true) :
    Coll s p (l ++ [x]) (fun z => left z && !z.sameKey (.int .i64 (x : Int))) := by
  refine ⟨?_, fun i q => ?_, fun i q => ?_⟩
  · rw [List.nodup_append]
    exact ⟨h.nd, by simp, fun a ha b hb => by
      rw [List.mem_singleton] at hb
      subst hb
      rintro rfl
      rw [(h.sub _ ha).2] at hl; cases hl⟩
  · rcases List.mem_append.1 q with q | q
    · exact ⟨(h.sub i q).1, by simp [(h.sub i q).2]⟩
    · rw [List.mem_singleton] at q
      subst q
      exact ⟨mem_which.2 ⟨c, hc, hp⟩, by simp [int_same]⟩
  · rcases h.all i q with e | e
    · exact .inl (List.mem_append_left _ e)
    · by_cases e2 : i = x
      · subst e2; exact .inl (List.mem_append_right _ (by simp))
      · exact .inr (by simp [e, int_same]; omega)
theorem sorted_eqL {l m : List Nat} (hl : l.Nodup) (hm : m.Pairwise (· < ·)) (h : ∀ i, i ∈ l ↔ i ∈ m) : sorted l = m := by
  have p1 : (sorted l).Perm m := by
    refine List.Perm.trans (List.mergeSort_perm _ _) ?_
    exact (List.perm_ext_iff_of_nodup hl (hm.imp (fun a b => by omega))).2 h
  refine p1.eq_of_pairwise (le := fun a b => a ≤ b) (fun a b _ _ h1 h2 => by omega) ?_ (hm.imp (fun h => by omega))
  have := List.pairwise_mergeSort (le := fun a b : Nat => decide (a ≤ b)) (fun a b c h1 h2 => by simp at *; omega) (fun a b => by simp; omega) l
  exact this.imp (fun h => by simpa using h)
theorem Coll.done {s : PStore} {p : BCert → Bool} {l : List Nat} {left : Lit → Bool} (h : Coll s p l left) (hi : PInv s) (hz : ∀ kl, left kl = false) : sorted l = s.which p :=
  sorted_eqL h.nd (which_sorted hi p) (fun i => ⟨fun q => (h.sub i q).1, fun q => by
    rcases h.all i q with e | e
    · exact e
    · rw [hz] at e; cases e⟩)
theorem Coll.len {s : PStore} {p : BCert → Bool} {l : List Nat} {left : Lit → Bool} (h : Coll s p l left) : l.length ≤ s.certs.length :=
  Nat.le_trans (nodup_le h.nd (fun i q => (h.sub i q).1)) (which_len s p)
set_option maxHeartbeats 2000000 in
set_option maxRecDepth 100000 in
theorem which_any (w : World) (b : Nat) (B : Nat → Prop) (s : PStore) (g : FuncId) (lb : Array Value) (p : BCert → Bool) (h : StoreAt w b B s)
    (eg : ∀ args w, (callFunc g args).run Tryz.prog w = .ok (.enter g args) w)
    (hp : ∀ W c sa sn sc, Chg (fun _ => False) w W → Calls Tryz.prog g (#[certV c (.slice sa sn sc)] ++ lb) W fun e w' => e = .returned (.bool (p c)) ∧ Chg (fun _ => False) W w') :
    Calls Tryz.prog 42 #[.pointer (some ⟨b, 0, none⟩), .func (.func g) #[] lb] w fun e w' => ∃ v, e = .returned v ∧ w'.ownsRow w.heap.size 3 1 v (s.which p).length (ints (s.which p)) ∧ Chg (fun _ => False) w w' := by
  obtain ⟨L, F, nW, C, rfl, h1, hi, _, _⟩ := h
  have c3 : w.cell? ⟨L.b, 3, none⟩ = some (.map (some L.mN)) := cell_of (o := 3) h1.own rfl
  have HN := Lib.hid h1.num
  have HI := Lib.hid hi
  have HP := Lib.hid hp
  have hlt := h1.num.map.lt
  have hl200 : s.certs.length ≤ 200 := Nat.le_trans hi.len hi.room2
  clear h1 hi hp
  go_enter Tryz.func42, Tryz.ntmps42
  go_wp2_with (at_range; refine wpList_rangeV rfl (.tmp 11) 76 rfl 3 34 Tryz.intKeyed Tryz.underlying76 L.mN s.certs.length F.fN rfl HN.out.map ?fnext)
  intro w8 r8 k8 z8
  have R8 := Lib.hid r8
  have K8 := Lib.hid k8
  have hw8 : w.heap.size ≤ w8.heap.size := k8.size
  clear r8 k8 z8
  go_wp2
  go_loopw [5] (fun lv wr => ∃ l : List Nat, Hid (wr.ownsRow w.heap.size 3 1 lv l.length (ints l) ∧ Chg (fun _ => False) w wr ∧ ∃ left cnt, RangeV Tryz.prog 3 wr L.mN w.heap.size s.certs.length F.fN left cnt ∧ Coll s p l left)) (fun _ wr => wr.rangeLeft L.mN w.heap.size)
  case atStart => exact ⟨[], Lib.hid ⟨World.ownsRow_nil _ _ _ _, K8.out, _, _, R8.out, Coll.start s p _ (fun q hq => by
    obtain ⟨sa, sc, e, _⟩ := HN.out.someS _ _ (HI.out.get_mem hq)
    show (F.fN _).isSome = true
    rw [e]; rfl)⟩⟩
  case round =>
    obtain ⟨l, hr⟩ := hrel
    obtain ⟨ho, hc, left, cnt, hrg, hcl⟩ := hr.out
    obtain ⟨la, lc, rfl⟩ := own_shape ho
    have HO := Lib.hid ho
    have HC := Lib.hid hc
    have HRG := Lib.hid hrg
    have HCL := Lib.hid hcl
    have hll := hcl.len
    have ML := Lib.hid (show wr.rangeLeft L.mN w.heap.size = cnt from hrg.left_eq)
    clear hr ho hc hrg hcl
    go_wp2_with (at_next; refine wpList_nextV rfl (.tmp 12) rfl 3 .i64 Tryz.intKeyed Tryz.underlying3 L.mN w.heap.size s.certs.length F.fN left cnt rfl HRG.out ?gdone ?gmore)
    · intro _ hz
      have DN := Lib.hid (HCL.out.done HI.out hz)
      have SO := Lib.hid (sort_own wr w.heap.size _ l HO.out (by omega))
      go_wp2_with fail
      (with_reducible refine (SO.out).mono ?_)
      rintro e w5 ⟨rfl, o5, k5⟩
      have FIN := Lib.hid (HC.out.next k5 (fun x hx e => by have := (HO.out.lt x e).1; omega))
      rw [DN.out] at o5
      have hl5 : (s.which p).length = l.length := by rw [← DN.out, sorted_length]
      have O5 := Lib.hid o5
      clear o5 k5 SO
      go_wp2
      go_ret
      exact ⟨_, rfl, by rw [hl5]; exact O5.out, FIN.out⟩
    · intro x v w9 cnt' hlx hfx r9 c9 k9 s9 hen
      cases hg : s.get x with
      | none => rw [HN.out.noneS x hg] at hfx; cases hfx
      | some c =>
      obtain ⟨i, rfl, hm⟩ := get_some hg
      obtain ⟨sa, sc, hf, _⟩ := HN.out.someS _ c hg
      rw [hfx] at hf
      cases hf
      have k9f : Chg (fun _ => False) w w9 := HC.out.next k9 (fun k hk e => by omega)
      obtain ⟨kind, sg, sp, fr, f, t, n⟩ := c
      have kb := chg_alloc (fun _ => False) w9 (.cells #[.int .i64 kind, .int .u16 (sg : Int), .string sp, .slice sa fr.length sc, .int .i64 f, .int .i64 t, .int .i64 n] 34)
      have hcall := HP.out (w9.alloc (.cells #[.int .i64 kind, .int .u16 (sg : Int), .string sp, .slice sa fr.length sc, .int .i64 f, .int .i64 t, .int .i64 n] 34)) ⟨kind, sg, sp, fr, f, t, n⟩ sa fr.length sc (k9f.trans kb)
      have kr : Chg (· = w.heap.size) wr (w9.alloc (.cells #[.int .i64 kind, .int .u16 (sg : Int), .string sp, .slice sa fr.length sc, .int .i64 f, .int .i64 t, .int .i64 n] 34)) := k9.trans (chg_alloc (· = w.heap.size) w9 (.cells #[.int .i64 kind, .int .u16 (sg : Int), .string sp, .slice sa fr.length sc, .int .i64 f, .int .i64 t, .int .i64 n] 34))
      have OR := Lib.hid (own_chg HO.out kr (fun k hk e => by
        obtain ⟨cs, q⟩ := own_cells HO.out hk
        exact HRG.out.ne_cells q e))
      have R9 := Lib.hid (r9.chg kb (fun e => e) (fun e => e))
      have K9 := Lib.hid (k9f.trans kb)
      have C9 := Lib.hid c9
      unfold certV at hcall hen
      simp only at hcall hen
      generalize hpc : p ⟨kind, sg, sp, fr, f, t, n⟩ = pc at *
      have HX := Lib.hid (And.intro hm (And.intro hpc hlx))
      clear hm hpc hlx hg hfx r9 c9 k9 s9 k9f kb kr HO HC HRG
      have hcall := Lib.hid hcall
      cases pc with
      | true =>
        go_wp2_with fail
        generalize w9.alloc (.cells #[.int .i64 kind, .int .u16 (sg : Int), .string sp, .slice sa fr.length sc, .int .i64 f, .int .i64 t, .int .i64 n] 34) = wa at *
        (with_reducible refine (hcall.out).mono ?_)
        rintro e w10 ⟨rfl, k10⟩
        have hb10 : w.heap.size ≤ w10.heap.size := Nat.le_trans K9.out.size k10.size
        go_wp2_with (at_builtin; refine wpList_pushF rfl (.tmp 21) (.tmp 23) 42 rfl 3 1 8 Tryz.underlying42 Tryz.elemInt w.heap.size _ l.length (ints l) rfl ?a1 w10.heap.size [.int .i64 (i : Int)] 3 (0, 0) rfl ?a2 rfl ?a3 ?a4 ?a5 ?a6 ?a7)
        case a1 => exact own_chg (own_chg OR.out k10 (fun _ _ e => e)) (chg_alloc (fun _ => False) _ _) (fun _ _ e => e)
        case a2 => exact obj_alloc_new _ _
        case a3 => intro u hu; simp at hu; subst hu; rfl
        case a4 => omega
        case a5 => unfold maxLen; omega
        case a6 => simp; omega
        intro v11 w11 o11 g11 _
        obtain ⟨a11, c11, rfl⟩ := own_shape o11
        have ka := chg_alloc (fun _ => False) w10 (.cells #[.int .i64 (i : Int)] 3)
        have r10 := (R9.out.chg k10 (fun e => e) (fun e => e)).chg ka (fun e => e) (fun e => e)
        have o10 := own_chg (own_chg OR.out k10 (fun _ _ e => e)) ka (fun _ _ e => e)
        have R11 := Lib.hid (r10.chg (Chg.of_grown g11) (fun e => by
          obtain ⟨cs, q⟩ := own_cells o10 e
          exact r10.map.ne_cells q rfl) (fun e => by
          obtain ⟨cs, q⟩ := own_cells o10 e
          exact r10.ne_cells q rfl))
        have K11 := Lib.hid ((((K9.out.trans k10).trans ka)).next (Chg.of_grown g11) (fun k hk e => by have := (OR.out.lt k e).1; omega))
        have O11 := Lib.hid (show w11.ownsRow w.heap.size 3 1 (.slice a11 (l.length + 1) c11) (l ++ [i]).length (ints (l ++ [i])) from by
          unfold ints at *
          rw [List.map_append, List.length_append]; exact o11)
        have C11 := Lib.hid (HCL.out.take HX.out.1 HX.out.2.1 HX.out.2.2)
        clear o11 g11 ka r10 o10 OR R9 K9 k10 HX HCL hcall
        go_wp2
        go_roundw
        case rel => exact ⟨l ++ [i], Lib.hid ⟨O11.out, K11.out, _, _, R11.out, C11.out⟩⟩
        case measure => rw [ML.out, R11.out.left_eq]; exact C9.out
      | false =>
        go_wp2_with fail
        generalize w9.alloc (.cells #[.int .i64 kind, .int .u16 (sg : Int), .string sp, .slice sa fr.length sc, .int .i64 f, .int .i64 t, .int .i64 n] 34) = wa at *
        (with_reducible refine (hcall.out).mono ?_)
        rintro e w10 ⟨rfl, k10⟩
        have R10 := Lib.hid (R9.out.chg k10 (fun e => e) (fun e => e))
        have O10 := Lib.hid (own_chg OR.out k10 (fun _ _ e => e))
        have K10 := Lib.hid (K9.out.trans k10)
        have C10 := Lib.hid (HCL.out.skip HI.out HX.out.1 HX.out.2.1)
        clear k10 R9 OR K9 HCL HX hcall
        go_wp2
        go_roundw
        case rel => exact ⟨l, Lib.hid ⟨O10.out, K10.out, _, _, R10.out, C10.out⟩⟩
        case measure => rw [ML.out, R10.out.left_eq]; exact C9.out
end Go.Proofs.YtdgmjablkdemmaaGreat

namespace Go.Proofs.YtdgmjablkdemmaaGreat
open Go.RowKit Go.Maps Go.Shelf

set_option maxRecDepth 100000 in
theorem valid_any (w : World) (b : Nat) (B : Nat → Prop) (s : PStore) (t : Int) (h : StoreAt w b B s) :
    Calls Tryz.prog 16 #[.pointer (some ⟨b, 0, none⟩), .int .i64 t] w fun e w' => ∃ v, e = .returned v ∧ w'.ownsRow w.heap.size 3 1 v (s.which fun c => holdsB c t).length (ints (s.which fun c => holdsB c t)) ∧ Chg (fun _ => False) w w' := by
  have kb := chg_alloc (fun _ => False) w (.cells #[.int .i64 t] 2)
  have ob := obj_alloc_new w (.cells #[.int .i64 t] 2)
  have WH := Lib.hid (which_any (w.alloc (.cells #[.int .i64 t] 2)) b B s 45 #[.pointer (some ⟨w.heap.size, 0, none⟩)] (fun c => holdsB c t) (h.chg kb (fun _ _ e => e)) (enters_of Tryz.func45 (by kernel_rfl) rfl) (fun W c sa sn sc k => validF_any W c sa sn sc t w.heap.size (cell_of (k.obj (fun e => e) ob) rfl)))
  have hsz : w.heap.size ≤ (w.alloc (.cells #[.int .i64 t] 2)).heap.size := kb.size
  have KB := Lib.hid kb
  clear kb ob h
  go_enter Tryz.func16, Tryz.ntmps16
  go_wp2_with fail
  generalize w.alloc (.cells #[.int .i64 t] 2) = wa at *
  (with_reducible refine (WH.out).mono ?_)
  rintro e w2 ⟨v, rfl, ho, k2⟩
  obtain ⟨a, c, rfl⟩ := own_shape ho
  have HO := Lib.hid ho
  have K2 := Lib.hid (KB.out.trans k2)
  clear ho k2 WH KB
  go_wp2
  go_ret
  exact ⟨_, rfl, own_base HO.out hsz, K2.out⟩
end Go.Proofs.YtdgmjablkdemmaaGreat
