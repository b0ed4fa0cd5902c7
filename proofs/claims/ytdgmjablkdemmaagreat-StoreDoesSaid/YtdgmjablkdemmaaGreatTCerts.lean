/-
  Package store: About, Certs.
  Package store: Certs.
-/
import Derived.Test.YtdgmjablkdemmaaGreatTDrop
namespace Go.Proofs.YtdgmjablkdemmaaGreat
open Go.RowKit Go.Maps

set_option maxRecDepth 100000 in
theorem iclone_any (w : World) (v : Value) (l : List Nat) (hv : w.ownsRow 0 3 1 v l.length (ints l)) (hl : l.length ≤ 1000) :
    Calls Tryz.prog 49 #[v] w fun e w' => ∃ v', e = .returned v' ∧ w'.ownsRow w.heap.size 3 1 v' l.length (ints l) ∧ Chg (fun _ => False) w w' := by
  obtain ⟨_, ⟨rfl, h0⟩ | ⟨g, cap, cur, rfl, hg, hh, q1, q2, q3, q4⟩⟩ := hv
  · have EQN := fun w => Lib.run_eql_slice_nil (P := Tryz.prog) w 42 _ none 0 0 0 0 Tryz.underlying42
    have : l = [] := List.eq_nil_of_length_eq_zero h0
    subst this
    go_enter Tryz.func49, Tryz.ntmps49
    go_wp2
    go_ret
    exact ⟨_, rfl, World.ownsRow_nil _ _ _ _, Chg.refl _ _⟩
  · have hov : w.ownsRow 0 3 1 (.slice (some ⟨g, 0, none⟩) l.length cap) l.length (ints l) := ⟨by assumption, .inr ⟨g, cap, cur, rfl, hg, hh, q1, q2, q3, q4⟩⟩
    have SRC := Lib.hid (show ∀ (j : Nat) u, (ints l)[j]? = some u → ∃ g' o', (some (⟨g, 0, none⟩ : Addr) : Option Addr) = some ⟨g', o', none⟩ ∧ w.cell? ⟨g', o' + j, none⟩ = some u from fun j u hj => by
      obtain ⟨_, _, e, _, hcl⟩ := own_get hov
      cases e
      obtain ⟨g2, e2, _, c⟩ := hcl j u hj
      cases e2
      exact ⟨g, 0, rfl, by rw [Nat.zero_add]; exact c⟩)
    have EQN := fun w => Lib.run_eql_slice_nil (P := Tryz.prog) w 42 _ (some ⟨g, 0, none⟩) l.length cap 0 0 Tryz.underlying42
    clear hov hh q1 q2 q3 q4 hg
    go_enter Tryz.func49, Tryz.ntmps49
    go_wp2_with (at_builtin; refine wpList_pushS rfl (.tmp 5) (.tmp 6) 42 rfl 3 1 8 Tryz.underlying42 Tryz.elemInt w.heap.size _ 0 [] rfl (own_empty _ _ _ _ (Nat.le_refl _)) (some ⟨g, 0, none⟩) l.length cap (ints l) rfl ?a1 ?a2 ?a3 ?a4 ?a5 ?a6 ?a7 ?nx1)
    case a1 => unfold ints; rw [List.length_map]; omega
    case a2 =>
      intro j u hj
      obtain ⟨g', o', e, c1⟩ := SRC.out j u hj
      exact ⟨g', o', e, cell_chg (chg_alloc (fun _ => False) w _) (fun e => e) c1⟩
    case a3 => intro e; cases e
    case a4 =>
      intro u hu
      obtain ⟨n, _, rfl⟩ := List.mem_map.1 hu
      rfl
    case a5 => omega
    case a6 => unfold maxLen; omega
    case a7 => simp
    intro v8 w8 o8 g8
    obtain ⟨a8, c8, rfl⟩ := own_shape o8
    have k8 : Chg (fun _ => False) w w8 := (chg_alloc (fun _ => False) w (.cells #[] 3)).next (Chg.of_grown g8) (fun x hx e => by
      have e2 : w.heap.size = x := by simpa [Value.ownBlock] using e
      omega)
    have K8 := Lib.hid k8
    have O8 := Lib.hid (show w8.ownsRow w.heap.size 3 1 (.slice a8 (0 + l.length) c8) l.length (ints l) from by simpa using o8)
    clear o8 g8 k8
    go_wp2
    go_ret
    exact ⟨_, rfl, (by have := O8.out; rw [Nat.zero_add] at this; exact this), K8.out⟩
set_option maxRecDepth 100000 in
theorem about_any (w : World) (b : Nat) (B : Nat → Prop) (s : PStore) (x : ByteArray) (h : StoreAt w b B s) (hx : x.size ≤ maxLen) :
    Calls Tryz.prog 21 #[.pointer (some ⟨b, 0, none⟩), .string x] w fun e w' => ∃ v', e = .returned v' ∧ w'.ownsRow w.heap.size 3 1 v' (s.about x).length (ints (s.about x)) ∧ Chg (fun _ => False) w w' := by
  obtain ⟨L, F, nW, C, rfl, h1, hi, _, _⟩ := h
  have c5 : w.cell? ⟨L.b, 5, none⟩ = some (.map (some L.mW)) := cell_of (o := 5) h1.own rfl
  obtain ⟨v, hv, hov, _⟩ := h1.wrd.rowD x
  have MP := Lib.hid h1.wrd.map
  have hal := about_len hi x
  have CL := Lib.hid (iclone_any w v (s.about x) hov (by omega))
  have WK := Lib.hid (wkey_of x hx)
  have ZS := Lib.hid (Tryz.zeroInts)
  have HV := Lib.hid hv
  clear h1 hi hv hov
  go_enter Tryz.func21, Tryz.ntmps21
  go_wp2_with (at_lookup; refine wpList_lookV rfl (.tmp 8) (.tmp 9) 78 rfl 23 42 Tryz.wordKeyed Tryz.underlying78 _ (ZS.out _) L.mW nW F.fW rfl MP.out _ (wlit x) rfl WK.out v HV.out ?_)
  go_wp2_with fail
  (with_reducible refine (CL.out).mono ?_)
  rintro e w2 ⟨v2, rfl, o2, k2⟩
  obtain ⟨a2, c2, rfl⟩ := own_shape o2
  have O2 := Lib.hid o2
  have K2 := Lib.hid k2
  clear o2 k2 CL
  go_wp2
  go_ret
  exact ⟨_, rfl, O2.out, K2.out⟩
theorem Tryz.elemCert : ElemInfo Tryz.prog 34 7 80 := elemInfo_of (z := .agg #[.int .i64 0, .int .u16 0, .string ⟨#[]⟩, .slice none 0 0, .int .i64 0, .int .i64 0, .int .i64 0]) (by kernel_rfl) rfl (by decide)
end Go.Proofs.YtdgmjablkdemmaaGreat

namespace Go.Proofs.YtdgmjablkdemmaaGreat
open Go.RowKit Go.Maps

def ccells : List (BCert × Value) → List Value
  | [] => []
  | p :: r => [.int .i64 p.1.kind, .int .u16 (p.1.sg : Int), .string p.1.sp, p.2, .int .i64 p.1.f, .int .i64 p.1.t, .int .i64 p.1.n] ++ ccells r
theorem ccells_len : ∀ xs, (ccells xs).length = xs.length * 7
  | [] => rfl
  | p :: r => by unfold ccells; rw [List.length_append, ccells_len r, List.length_cons]; simp; omega
theorem ccells_append : ∀ xs ys, ccells (xs ++ ys) = ccells xs ++ ccells ys
  | [], ys => rfl
  | p :: r, ys => by rw [List.cons_append, ccells, ccells, ccells_append r ys, List.append_assoc]
/-- Certificates in a row of the call's own, each with its For in a row of its own. -/
structure CRow (w : World) (base : Nat) (v : Value) (xs : List (BCert × Value)) : Prop where
  row : w.ownsRow base 34 7 v xs.length (ccells xs)
  ent : ∀ p ∈ xs, w.ownsRow base 23 1 p.2 p.1.fr.length (wcells p.1.fr)
  sep : xs.Pairwise (fun p q => ∀ k, p.2.ownBlock = some k → q.2.ownBlock ≠ some k)
theorem CRow.chg {S : Nat → Prop} {w w' : World} {base : Nat} {v : Value} {xs : List (BCert × Value)} (h : CRow w base v xs) (hc : Chg S w w') (hs : ∀ k, base ≤ k → k < w.heap.size → ¬ S k) : CRow w' base v xs :=
  ⟨own_chg h.row hc (fun k hk => hs k (h.row.lt k hk).1 (h.row.lt k hk).2), fun p hp => own_chg (h.ent p hp) hc (fun k hk => hs k ((h.ent p hp).lt k hk).1 ((h.ent p hp).lt k hk).2), h.sep⟩
/-- One more. -/
theorem CRow.push {w w1 w2 : World} {base : Nat} {v v' u : Value} {xs : List (BCert × Value)} {c : BCert} (h : CRow w base v xs) (hb : base ≤ w.heap.size) (k1 : Chg (fun _ => False) w w1) (hu : w1.ownsRow w.heap.size 23 1 u c.fr.length (wcells c.fr))
    (k2 : Chg (fun k => v.ownBlock = some k) w1 w2) (ho : w2.ownsRow base 34 7 v' (xs.length + 1) (ccells xs ++ [.int .i64 c.kind, .int .u16 (c.sg : Int), .string c.sp, u, .int .i64 c.f, .int .i64 c.t, .int .i64 c.n])) :
    CRow w2 base v' (xs ++ [(c, u)]) := by
  have h1 := h.chg k1 (fun _ _ _ e => e)
  have tyne : ∀ p ∈ xs, ∀ k, p.2.ownBlock = some k → ¬ v.ownBlock = some k := fun p hp k hk e => by
    obtain ⟨cs, q1⟩ := own_cells (h1.ent p hp) hk
    obtain ⟨ds, q2⟩ := own_cells h1.row e
    exact ty_ne q1 q2 (by decide) rfl
  refine ⟨?_, fun p hp => ?_, ?_⟩
  · rw [ccells_append, List.length_append]
    exact ho
  · rcases List.mem_append.1 hp with hp | hp
    · exact own_chg (h1.ent p hp) k2 (fun k hk => tyne p hp k hk)
    · rw [List.mem_singleton] at hp
      subst hp
      exact own_base (own_chg hu k2 (fun k hk e => by
        obtain ⟨cs, q1⟩ := own_cells hu hk
        obtain ⟨ds, q2⟩ := own_cells h1.row e
        exact ty_ne q1 q2 (by decide) rfl)) hb
  · rw [List.pairwise_append]
    refine ⟨h.sep, by simp, fun p hp q hq k hk e => ?_⟩
    rw [List.mem_singleton] at hq
    subst hq
    have := ((h.ent p hp).lt k hk).2
    have := (hu.lt k e).1
    omega
def PStore.certsOf (s : PStore) (l : List Nat) : List BCert := l.filterMap fun (i : Nat) => s.get (i : Int)
def CertsRes (w : World) (cs : List BCert) (e : Ending) (w' : World) : Prop := ∃ v xs, e = .returned v ∧ CRow w' w.heap.size v xs ∧ xs.map Prod.fst = cs ∧ Chg (fun _ => False) w w'
set_option maxHeartbeats 4000000 in
set_option maxRecDepth 100000 in
theorem certs_any (w : World) (b : Nat) (B : Nat → Prop) (s : PStore) (t : Int) (h : StoreAt w b B s) (hnx : s.next ≤ 1000000) :
    Calls Tryz.prog 18 #[.pointer (some ⟨b, 0, none⟩), .int .i64 t] w (CertsRes w (s.certsOf (s.which fun c => holdsB c t))) := by
  have VA := Lib.hid (valid_any w b B s t h)
  have HS := Lib.hid h
  have hl200 : (s.which fun c => holdsB c t).length ≤ 200 := Nat.le_trans (which_len s _) (Nat.le_trans h.inv.len h.inv.room2)
  have MW := Lib.hid (fun i (hi : i ∈ s.which fun c => holdsB c t) => mem_which.1 hi)
  clear h
  generalize s.which (fun c => holdsB c t) = l at *
  go_enter Tryz.func18, Tryz.ntmps18
  go_wp2_with fail
  (with_reducible refine (VA.out).mono ?_)
  rintro e w2 ⟨v, rfl, ho, k2⟩
  obtain ⟨a, c, rfl⟩ := own_shape ho
  have HO := Lib.hid ho
  have K2 := Lib.hid k2
  clear ho k2 VA
  go_wp2_with fail
  go_loopw [5, 12] (fun lv iv wr => ∃ (k : Nat) (xs : List (BCert × Value)), k ≤ l.length ∧ iv = .int .i64 k ∧ Hid (CRow wr w.heap.size lv xs ∧ xs.map Prod.fst = s.certsOf (l.take k) ∧ xs.length = k ∧ w2.heap.size ≤ wr.heap.size ∧ wr.ownsRow w.heap.size 3 1 (.slice a l.length c) l.length (ints l) ∧ Chg (fun _ => False) w wr)) (fun _ iv _ => l.length - (intOf iv).toNat)
  case atStart => exact ⟨0, [], by omega, rfl, Lib.hid ⟨⟨World.ownsRow_nil _ _ _ _, fun p hp => (List.not_mem_nil hp).elim, List.Pairwise.nil⟩, rfl, rfl, Nat.le_refl _, HO.out, K2.out⟩⟩
  case round =>
    obtain ⟨k, xs, hk, rfl, HI2⟩ := hrel
    obtain ⟨hcr, hmap, hlen, hsw, hor, hkc⟩ := HI2.out
    obtain ⟨la, lc, rfl⟩ := own_shape hcr.row
    have CR := Lib.hid hcr
    have MP := Lib.hid hmap
    have HR := Lib.hid hor
    have HK := Lib.hid hkc
    have XL := Lib.hid hlen
    have hxl : xs.length ≤ 200 := by omega
    clear HI2 hcr hmap hor hkc hlen
    by_cases hlt : k < l.length
    · obtain ⟨i, hx⟩ : ∃ i, l[k]? = some i := ⟨_, List.getElem?_eq_getElem hlt⟩
      obtain ⟨cc, hm, _⟩ := MW.out i (List.mem_of_getElem? hx)
      obtain ⟨_, _, e1, _, hcl⟩ := own_get HR.out
      cases e1
      obtain ⟨g, rfl, hgb, c0⟩ := hcl k (.int .i64 (i : Int)) (by unfold ints; rw [List.getElem?_map, hx]; rfl)
      obtain ⟨L, F, nW, C, hLb, h1, hi, _, _⟩ := HS.out.chg HK.out (fun _ _ e => e)
      subst hLb
      have c3 : wr.cell? ⟨L.b, 3, none⟩ = some (.map (some L.mN)) := cell_of (o := 3) h1.own rfl
      have hg := hi.get_mem hm
      simp only at hg
      have hilt := hi.lt _ hm
      simp only at hilt
      obtain ⟨sa, sc, hf, hca⟩ := h1.num.someS _ cc hg
      have hfrm := (certB_may (hi.ok _ hm)).fr
      simp only at hfrm
      have hf1 : 1 ≤ cc.fr.length := by
        obtain ⟨q, _⟩ := of_decide_eq_true hfrm
        rwa [lists_len] at q
      have hf16 : cc.fr.length ≤ 1000 := by
        obtain ⟨_, q, _⟩ := of_decide_eq_true hfrm
        rw [lists_len] at q
        omega
      obtain ⟨g2, o2, rfl, _⟩ := hca.set.some (by omega)
      have CLN := Lib.hid (cclone_any wr cc g2 o2 sc C hca.set.at_ hf16)
      have NM := Lib.hid h1.num.map
      have IK := Lib.hid (ikey_of (i : Int) (by omega) (by omega))
      have HZ := Lib.hid (Tryz.zeroCert)
      have HF := Lib.hid hf
      have CO := Lib.hid (show s.certsOf (l.take (k + 1)) = s.certsOf (l.take k) ++ [cc] from by
        unfold PStore.certsOf
        rw [List.take_add_one, hx, List.filterMap_append]
        simp [hg])
      clear hm hcl hx hg hilt hf hca hfrm hf1 h1 hi hgb
      obtain ⟨kind, sg, sp, fr, f, u, num⟩ := cc
      unfold certV at HF CLN
      simp only at HF CLN hf16
      go_wp2_with (at_lookup; refine wpList_lookV rfl (.tmp 20) (.tmp 21) 76 rfl 3 34 Tryz.intKeyed Tryz.underlying76 _ (HZ.out _) L.mN s.certs.length F.fN rfl NM.out _ _ rfl IK.out (.agg #[.int .i64 kind, .int .u16 (sg : Int), .string sp, .slice (some ⟨g2, o2, none⟩) fr.length sc, .int .i64 f, .int .i64 u, .int .i64 num]) (by rw [HF.out]; rfl) ?_)
      go_wp2_with fail
      (with_reducible refine (CLN.out).mono ?_)
      rintro e w5 ⟨v5, rfl, o5, k5⟩
      obtain ⟨a5, c5, rfl⟩ := own_shape o5
      have hbw : w.heap.size ≤ wr.heap.size := HK.out.size
      have hb5 : w.heap.size ≤ w5.heap.size := Nat.le_trans hbw k5.size
      go_wp2_with (at_builtin; refine wpList_pushF rfl (.tmp 16) (.tmp 24) 47 rfl 34 7 80 Tryz.underlying47 Tryz.elemCert w.heap.size _ xs.length (ccells xs) rfl ?a1 w5.heap.size [.int .i64 kind, .int .u16 (sg : Int), .string sp, .slice a5 fr.length c5, .int .i64 f, .int .i64 u, .int .i64 num] 34 (0, 0) rfl ?a2 rfl ?a3 ?a4 ?a5 ?a6 ?a7)
      case a1 => exact own_chg (own_chg CR.out.row k5 (fun _ _ e => e)) (chg_alloc (fun _ => False) _ _) (fun _ _ e => e)
      case a2 => exact obj_alloc_new _ _
      case a3 => intro u hu; simp at hu; rcases hu with rfl | rfl | rfl | rfl | rfl | rfl | rfl <;> rfl
      case a4 => omega
      case a5 => unfold maxLen; omega
      case a6 => simp; omega
      intro v6 w6 o6 g6 _
      obtain ⟨a6, c6, rfl⟩ := own_shape o6
      have k6 := Chg.of_grown g6
      have ka := chg_alloc (fun _ => False) w5 (.cells #[.int .i64 kind, .int .u16 (sg : Int), .string sp, .slice a5 fr.length c5, .int .i64 f, .int .i64 u, .int .i64 num] 34)
      have CR6 := Lib.hid (CRow.push (c := ⟨kind, sg, sp, fr, f, u, num⟩) CR.out hbw (k5.trans ka) (own_chg o5 ka (fun _ _ e => e)) k6 o6)
      have K6 := Lib.hid ((HK.out.trans (k5.trans ka)).next k6 (fun k hk e => by have := (CR.out.row.lt k e).1; omega))
      have R6 := Lib.hid (own_chg (own_chg HR.out (k5.trans ka) (fun _ _ e => e)) k6 (fun k hk e => by
        obtain ⟨cs, q1⟩ := own_cells HR.out hk
        obtain ⟨ds, q2⟩ := own_cells CR.out.row e
        exact ty_ne q1 q2 (by decide) rfl))
      have M6 := Lib.hid (show (xs ++ [((⟨kind, sg, sp, fr, f, u, num⟩ : BCert), Value.slice a5 fr.length c5)]).map Prod.fst = s.certsOf (l.take (k + 1)) from by
        rw [CO.out, List.map_append, MP.out]; rfl)
      have hs6 : w2.heap.size ≤ w6.heap.size := Nat.le_trans hsw (Nat.le_trans k5.size (Nat.le_trans ka.size k6.size))
      have X6 := Lib.hid (show (xs ++ [((⟨kind, sg, sp, fr, f, u, num⟩ : BCert), Value.slice a5 fr.length c5)]).length = k + 1 from by rw [List.length_append, XL.out]; rfl)
      clear o6 g6 k6 ka k5 o5 CR MP HR HK XL CLN NM HF IK CO c0 c3
      go_wp2
      go_roundw
      case rel => exact ⟨k + 1, _, by omega, by go_num, Lib.hid ⟨CR6.out, M6.out, X6.out, hs6, R6.out, K6.out⟩⟩
      case measure => simp [intOf]; omega
    · obtain rfl : k = l.length := by omega
      rw [List.take_length] at MP
      go_wp2
      go_ret
      exact ⟨_, xs, rfl, CR.out, MP.out, HK.out⟩
end Go.Proofs.YtdgmjablkdemmaaGreat
