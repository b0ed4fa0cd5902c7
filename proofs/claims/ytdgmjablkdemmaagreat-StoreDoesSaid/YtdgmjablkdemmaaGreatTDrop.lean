/-
  Package store: slices.DeleteFunc with drop's closure (by the shelf's contract).
  A store with one certificate less, in memory.
  Package store: drop.
  Package store: Sweep.
  Package store: Next.
-/
import Derived.Test.YtdgmjablkdemmaaGreatTPut
import Derived.Shelf.SlicesE.DeleteFunc
import Derived.Shelf.SlGeneric
import Derived.Shelf.Lay
import Derived.Ground.SlgfProg
namespace Go.Proofs
open Go.Shelf
shelf_lay_g SlLaysH.n10 Slgf 10 at Tryz 72 as Tryz.laysDel
end Go.Proofs
namespace Go.Proofs.YtdgmjablkdemmaaGreat
open Go.RowKit Go.Maps Go.Shelf Go.Lib Go.Sort

theorem dropF_gives (i : Nat) (x : Int) (bx : Nat) (W : World) (hc : W.cell? ⟨bx, 0, none⟩ = some (.int .i64 (i : Int))) :
    FnGives Tryz.prog 73 #[.pointer (some ⟨bx, 0, none⟩)] #[.int .i64 x] (.bool (decide (x = (i : Int)))) W := by
  show Calls Tryz.prog 73 #[.int .i64 x, .pointer (some ⟨bx, 0, none⟩)] W _
  go_enter Tryz.func73, Tryz.ntmps73
  go_wp2
  go_ret
  exact ⟨rfl, 0, rfl⟩
theorem filter_ints (l : List Nat) (i : Nat) : ((l.map fun (n : Nat) => (n : Int)).filter fun x => !decide (x = (i : Int))) = (l.filter fun j => !decide (j = i)).map fun (n : Nat) => (n : Int) := by
  rw [List.filter_map]
  congr 1
  refine List.filter_congr (fun a _ => ?_)
  simp only [Function.comp]
  congr 1
  rw [decide_eq_decide]
  omega
theorem del_own (w : World) (base : Nat) (v : Value) (l : List Nat) (i bx : Nat) (h : w.ownsRow base 3 1 v l.length (ints l)) (hl : l.length ≤ 1000000) (h0 : l ≠ []) (hb : w.cell? ⟨bx, 0, none⟩ = some (.int .i64 (i : Int))) (hne : v.ownBlock ≠ some bx) :
    Calls Tryz.prog 72 #[v, .func (.func 73) #[] #[.pointer (some ⟨bx, 0, none⟩)]] w fun e w' =>
      ∃ v', e = .returned v' ∧ w'.ownsRow base 3 1 v' (l.filter fun j => !decide (j = i)).length (ints (l.filter fun j => !decide (j = i))) ∧ v'.ownBlock = v.ownBlock ∧ Chg (fun x => v.ownBlock = some x) w w' := by
  have h1 := h
  obtain ⟨hm, ⟨rfl, h2⟩ | ⟨g, cap, cur, rfl, hg, hh, q1, q2, q3, q4⟩⟩ := h
  · exact absurd (List.eq_nil_of_length_eq_zero h2) h0
  · have hcs : cur.size = cap := by omega
    have hgb : bx ≠ g := fun e => hne (by rw [e]; rfl)
    have e1 : (l.map fun (n : Nat) => (n : Int)).toArray.size = l.length := by simp
    have hH : Holds (Value.int .i64) w g 0 (l.map fun (n : Nat) => (n : Int)).toArray := by
      intro j hj
      have hj : j < l.length := by simpa using hj
      refine ⟨?_, frozen_of hh⟩
      rw [Nat.zero_add]
      have := h1.cellAt (j := j) (by omega)
      rw [this]
      unfold ints
      rw [List.getElem?_map, List.getElem?_eq_getElem hj, getElem!_pos _ j (by simpa using hj)]
      simp
    have hbl : bx < w.heap.size := World.block_lt_of_cell? w _ hb
    have hs := AnyE.slices_DeleteFunc Tryz.laysDel (Value.int .i64) (fun _ => rfl) (fun x => decide (x = (i : Int))) 73 #[.pointer (some ⟨bx, 0, none⟩)] (enters_of Tryz.func73 (by kernel_rfl) rfl) 0 (Tryz.zeroInt) g 0 cap (l.map fun (n : Nat) => (n : Int)).toArray w
      (fun W x hb' => dropF_gives i x bx W ((hb'.cell (p := ⟨bx, 0, none⟩) hbl).trans hb))
      (fun n os dk x _ => dropF_gives i x bx _ (by
        unfold sortWorld
        rw [cell?_grow _ _ _ (by show bx < (putRow _ _ _ _ _).heap.size; rw [size_putRow]; exact hbl), cell?_putRow_other _ _ g 0 _ _ (Or.inl hgb)]
        exact hb))
      hH (by rw [e1]; omega) (by rw [e1]; omega)
    rw [e1] at hs
    change Calls Tryz.prog 72 _ _ _ at hs
    rw [show (l.map fun (n : Nat) => (n : Int)).toArray.toList = l.map fun (n : Nat) => (n : Int) from rfl, filter_ints] at hs
    have hle : (l.filter fun j => !decide (j = i)).length ≤ l.length := List.length_filter_le _ _
    refine Calls.mono hs ?_
    rintro e w' ⟨rfl, q, rfl⟩
    obtain ⟨r1, r2⟩ := run_sort_row (((l.filter fun j => !decide (j = i)).map fun (n : Nat) => (n : Int)) ++ List.replicate (l.length - ((l.filter fun j => !decide (j = i)).map fun (n : Nat) => (n : Int)).length) 0) hh (n := l.length) (by simp; omega) (by omega) q #[]
    rw [grow_empty] at r1 r2
    have il : (ints (l.filter fun j => !decide (j = i))).length = (l.filter fun j => !decide (j = i)).length := by unfold ints; rw [List.length_map]
    refine ⟨_, rfl, ⟨by rw [il]; omega, .inr ⟨g, cap, _, by simp, hg, r1, ?_, q2, ?_, ?_⟩⟩, rfl, r2.mono (fun x _ e => by rw [e]; rfl)⟩
    · omega
    · simp; omega
    · rw [Nat.mul_one]
      unfold ints
      rw [List.map_append, List.append_assoc, List.take_append_of_le_length (by simp), List.take_of_length_le (by simp), List.map_map]
      rfl
end Go.Proofs.YtdgmjablkdemmaaGreat

namespace Go.Proofs.YtdgmjablkdemmaaGreat
open Go.RowKit Go.Maps

theorem NumIn.drop {w w' : World} {mN n' : Nat} {fN : Lit → Option Value} {C : Nat → Prop} {s : PStore} {i : Nat} {c : BCert} (hi : PInv s) (hm : (i, c) ∈ s.certs) (h : NumIn w mN fN C s) (hc : Chg (· = mN) w w')
    (hm' : MapV Tryz.prog 3 w' mN n' (putV fN (.int .i64 (i : Int)) none)) (hn : n' + 1 = s.certs.length) : NumIn w' mN (putV fN (.int .i64 (i : Int)) none) C (s.drop i) := by
  refine ⟨?_, fun x hx => ?_, fun x d hx => ?_, fun k hk => ?_⟩
  · have := dropS_len hi hm
    rw [show (s.drop i).certs.length = n' by omega]; exact hm'
  · rw [drop_get] at hx
    split at hx
    · rename_i e; subst e; exact putV_same _ _ _
    · rename_i hne
      rw [putV_other _ (fun e => hne (by injection e))]
      exact h.noneS x hx
  · rw [drop_get] at hx
    split at hx
    · cases hx
    · rename_i hne
      obtain ⟨ra, rc, e, q⟩ := h.someS x d hx
      exact ⟨ra, rc, by rw [putV_other _ (fun e => hne (by injection e))]; exact e, q.chg hc (fun k hk e => h.no k hk e)⟩
  · obtain ⟨cs, q⟩ := h.typ k hk
    exact ⟨cs, hc.obj (fun e => h.no k hk e) q⟩
theorem ByteIn.drop {w' : World} {mB n' : Nat} {fB : Lit → Option Value} {s : PStore} {i : Nat} {c : BCert} (hi : PInv s) (hmem : (i, c) ∈ s.certs) (h : ∀ y, fB (.string y) = (s.numOf y).map (fun i => .int .i64 (i : Int)))
    (hm : MapV Tryz.prog 9 w' mB n' (putV fB (.string (certE c)) none)) (hn : n' + 1 = s.certs.length) : ByteIn w' mB (putV fB (.string (certE c)) none) (s.drop i) := by
  refine ⟨?_, fun y => ?_⟩
  · have := dropS_len hi hmem
    rw [show (s.drop i).certs.length = n' by omega]; exact hm
  · rw [drop_numOf hi hmem]
    by_cases e : y = certE c
    · subst e
      rw [if_pos rfl, putV_same]; rfl
    · rw [if_neg e, putV_other _ (fun q => e (by injection q)), h]
/-- The numbers about a word, when k words of the For of the certificate that goes are done. -/
def abD (s : PStore) (i : Nat) (c : BCert) (k : Nat) (x : ByteArray) : List Nat := if x ∈ c.fr.take k then (s.about x).filter (fun j => !decide (j = i)) else s.about x
theorem abD_zero (s : PStore) (i : Nat) (c : BCert) : abD s i c 0 = s.about := by funext x; unfold abD; simp
theorem abD_all {s : PStore} (h : PInv s) {i : Nat} {c : BCert} (hc : (i, c) ∈ s.certs) : abD s i c c.fr.length = (s.drop i).about := by
  funext x
  unfold abD
  rw [List.take_length, drop_about]
  split
  · rfl
  · rename_i hx; exact (about_not h hc hx).symm
theorem abD_step {s : PStore} {i : Nat} {c : BCert} (hnd : c.fr.Nodup) {k : Nat} {x : ByteArray} (hx : c.fr[k]? = some x) : abD s i c k x = s.about x ∧ updA (abD s i c k) x ((s.about x).filter (fun j => !decide (j = i))) = abD s i c (k + 1) := by
  have hno : x ∉ c.fr.take k := fun hm => by
    obtain ⟨j, hj⟩ := List.mem_iff_getElem?.1 hm
    rw [List.getElem?_take] at hj
    split at hj
    · have := (List.getElem?_inj (List.getElem?_eq_some_iff.1 hx).1 hnd).1 (hx.trans hj.symm)
      omega
    · cases hj
  refine ⟨by unfold abD; rw [if_neg hno], updA_self ?_ (fun y hy => ?_)⟩
  · unfold abD; rw [if_pos]
    rw [List.take_add_one, hx]; simp
  · unfold abD
    have : (y ∈ c.fr.take (k + 1)) ↔ y ∈ c.fr.take k := by
      rw [List.take_add_one, hx]
      simp [hy]
    simp only [this]
theorem about_has {s : PStore} {i : Nat} {c : BCert} (hc : (i, c) ∈ s.certs) {x : ByteArray} (hx : x ∈ c.fr) : s.about x ≠ [] := by
  have : i ∈ s.about x := by
    unfold PStore.about
    exact List.mem_map.2 ⟨(i, c), List.mem_filter.2 ⟨hc, by simpa using hx⟩, rfl⟩
  exact List.ne_nil_of_mem this
end Go.Proofs.YtdgmjablkdemmaaGreat

namespace Go.Proofs.YtdgmjablkdemmaaGreat
open Go.RowKit Go.Maps

def StoreRes (w : World) (b : Nat) (B : Nat → Prop) (s' : PStore) (e : Ending) (w' : World) : Prop :=
  ∃ B', e = .returned (.tuple #[]) ∧ StoreAt w' b B' s' ∧ Chg B w w' ∧ ∀ k, B' k → B k ∨ w.heap.size ≤ k
set_option maxHeartbeats 8000000 in
set_option maxRecDepth 100000 in
theorem drop_any (w : World) (b : Nat) (B : Nat → Prop) (s : PStore) (i : Nat) (c : BCert) (h : StoreAt w b B s) (hm : (i, c) ∈ s.certs) (hn : s.next ≤ 1000000) :
    Calls Tryz.prog 44 #[.pointer (some ⟨b, 0, none⟩), .int .i64 (i : Int)] w (StoreRes w b B (s.drop i)) := by
  obtain ⟨L, F, nW, C, rfl, h1, hi, hMC, hB⟩ := h
  have HI := Lib.hid hi
  have MC := Lib.hid hMC
  have HB := Lib.hid hB
  have HM := Lib.hid hm
  have hilt := hi.lt _ hm
  simp only at hilt
  have hcb := hi.ok _ hm
  simp only at hcb
  have hl200 : s.certs.length ≤ 200 := Nat.le_trans hi.len hi.room2
  have hg := hi.get_mem hm
  simp only at hg
  obtain ⟨sa, sc, hf, hc⟩ := h1.num.someS _ _ hg
  have hfrm := certB_may hcb
  have hf16 : c.fr.length ≤ 16 := by
    obtain ⟨_, q, _⟩ := of_decide_eq_true hfrm.fr
    rw [lists_len] at q
    exact q
  have FND := Lib.hid (setB_nodup hfrm.fr)
  have kb := chg_alloc (fun _ => False) w (.cells #[.int .i64 (i : Int)] 3)
  have OI := Lib.hid (obj_alloc_new w (.cells #[.int .i64 (i : Int)] 3))
  have hs0 : w.heap.size < (w.alloc (.cells #[.int .i64 (i : Int)] 3)).heap.size := by rw [World.size_alloc]; omega
  have H0 := Lib.hid (h1.chg kb (fun _ _ e => e))
  have HC0 := Lib.hid (hc.chg kb (fun _ _ e => e))
  have K0 := Lib.hid kb
  have IK := Lib.hid (ikey_of (i : Int) (by omega) (by omega))
  have CE := Lib.hid (certE_len hcb)
  have hci : ∀ k, C k → k < w.heap.size := fun k hk => h1.lt (.inr hk)
  have CI := Lib.hid hci
  have D0 := Lib.hid (And.intro h1.d1 (And.intro h1.d2 (And.intro h1.d3 h1.bnd)))
  have HCB := Lib.hid hcb
  clear hi hMC hB hm hc h1 kb hci hg hfrm hcb
  obtain ⟨kind, sg, sp, fr, f, t, n⟩ := c
  unfold certV at hf
  simp only at hf HC0 CE hf16 FND HM
  go_enter Tryz.func44, Tryz.ntmps44
  go_wp2_with fail
  generalize w.alloc (.cells #[.int .i64 (i : Int)] 3) = w0 at *
  have kd := chg_drew (fun _ => False) w0
  have c3 : w0.drew.cell? ⟨L.b, 3, none⟩ = some (.map (some L.mN)) := cell_of H0.out.own rfl
  have ci : w0.drew.cell? ⟨w.heap.size, 0, none⟩ = some (.int .i64 (i : Int)) := cell_of OI.out rfl
  have LK := Lib.hid (fun (w' : World) (m : MapV Tryz.prog 3 w' L.mN s.certs.length F.fN) => m.look_eq Tryz.intKeyed Tryz.underlying76 (Tryz.zeroCert w') IK.out (show (F.fN (.int .i64 (i : Int))).getD _ = .agg #[.int .i64 kind, .int .u16 (sg : Int), .string sp, .slice sa fr.length sc, .int .i64 f, .int .i64 t, .int .i64 n] from by rw [hf]; rfl))
  have HF := Lib.hid hf
  clear hf
  refine wp_region_planL (N := 63) [.rd [0, 1, 2, 3, 4, 5], .ef 6, .ef 7] 7 (fun w' => w'.cell? ⟨L.b, 3, none⟩ = some (.map (some L.mN)) ∧ w'.cell? ⟨w.heap.size, 0, none⟩ = some (.int .i64 (i : Int)) ∧ (Instr.lookup 76 (.map (some L.mN)) (.int .i64 (i : Int)) false).run Tryz.prog w' = .ok (.agg #[.int .i64 kind, .int .u16 (sg : Int), .string sp, .slice sa fr.length sc, .int .i64 f, .int .i64 t, .int .i64 n]) w') (by kernel_rfl) (by kernel_rfl) (by kernel_rfl) (by kernel_rfl) (by kernel_rfl) (Nat.le_of_ble_eq_true rfl) ⟨c3, ci, LK.out _ (H0.out.num.map.chg kd (fun e => e))⟩ ?_
  refine planL_rd (A := ?A1) ?g1 ?g2
  case g1 =>
    rintro w' ⟨z0, z1, z2⟩ K hK
    simp only [opsAt, List.filterMap_cons, List.filterMap_nil, List.getElem?_toArray, List.getElem?_cons_succ, List.getElem?_cons_zero]
    repeat still_step
    refine wpStill_nil ?_
    exact hK
  have H1 := Lib.hid (H0.out.chg kd (fun _ _ e => e))
  have HC1 := Lib.hid (HC0.out.chg kd (fun _ _ e => e))
  have K1 := Lib.hid K0.out.drew
  have OI1 := Lib.hid (kd.obj (fun e => e) OI.out)
  have hs1 : w.heap.size < w0.drew.heap.size := hs0
  clear kd c3 ci H0 HC0 K0 OI hs0
  generalize w0.drew = wd at *
  refine planL_ef rfl ?_
  go_wp2_with fail
  have kz := chg_alloc (fun _ => False) wd (.cells #[.int .i64 0, .int .u16 0, .string ⟨#[]⟩, .slice none 0 0, .int .i64 0, .int .i64 0, .int .i64 0] 34)
  refine ⟨.inr ⟨cell_of (kz.obj (fun e => e) H1.out.own) rfl, cell_of (kz.obj (fun e => e) OI1.out) rfl, LK.out _ (H1.out.num.map.chg kz (fun e => e))⟩, ?_⟩
  clear kz
  refine planL_ef rfl ?_
  go_wp2_with fail
  unfold PlanQ
  refine planL_nil ?_
  have kz := chg_alloc (fun _ => False) wd (.cells #[.int .i64 kind, .int .u16 (sg : Int), .string sp, .slice sa fr.length sc, .int .i64 f, .int .i64 t, .int .i64 n] 34)
  have OB2 := Lib.hid (obj_alloc_new wd (.cells #[.int .i64 kind, .int .u16 (sg : Int), .string sp, .slice sa fr.length sc, .int .i64 f, .int .i64 t, .int .i64 n] 34))
  have H2 := Lib.hid (H1.out.chg kz (fun _ _ e => e))
  have HC2 := Lib.hid (HC1.out.chg kz (fun _ _ e => e))
  have K2 := Lib.hid (K1.out.trans kz)
  have OI2 := Lib.hid (kz.obj (fun e => e) OI1.out)
  have hbc : w.heap.size < wd.heap.size := hs1
  clear kz H1 HC1 K1 OI1 hs1 LK
  generalize hbc2 : wd.heap.size = bc at *
  generalize wd.alloc (.cells #[.int .i64 kind, .int .u16 (sg : Int), .string sp, .slice sa fr.length sc, .int .i64 f, .int .i64 t, .int .i64 n] 34) = w2 at *
  clear hbc2
  go_wp2_with fail
  have c3 : w2.drew.cell? ⟨L.b, 3, none⟩ = some (.map (some L.mN)) := cell_of H2.out.own rfl
  have ci : w2.drew.cell? ⟨w.heap.size, 0, none⟩ = some (.int .i64 (i : Int)) := cell_of OI2.out rfl
  have kd := chg_drew (fun _ => False) w2
  refine wp_region_planL (N := 63) [.rd [0, 1, 2, 3, 4], .ef 5] 6 (fun w' => w'.cell? ⟨L.b, 3, none⟩ = some (.map (some L.mN)) ∧ w'.cell? ⟨w.heap.size, 0, none⟩ = some (.int .i64 (i : Int))) (by kernel_rfl) (by kernel_rfl) (by kernel_rfl) (by kernel_rfl) (by kernel_rfl) (Nat.le_of_ble_eq_true rfl) ⟨c3, ci⟩ ?_
  refine planL_rd (A := ?A2) ?g3 ?g4
  case g3 =>
    rintro w' ⟨z0, z1⟩ K hK
    simp only [opsAt, List.filterMap_cons, List.filterMap_nil, List.getElem?_toArray, List.getElem?_cons_succ, List.getElem?_cons_zero]
    repeat still_step
    refine wpStill_nil ?_
    exact hK
  have H3 := Lib.hid (H2.out.chg kd (fun _ _ e => e))
  have HC3 := Lib.hid (HC2.out.chg kd (fun _ _ e => e))
  have K3 := Lib.hid K2.out.drew
  have OI3 := Lib.hid (kd.obj (fun e => e) OI2.out)
  have OB3 := Lib.hid (kd.obj (fun e => e) OB2.out)
  clear kd c3 ci H2 HC2 K2 OI2 OB2
  generalize w2.drew = w3 at *
  have AP := Lib.hid (apart_of H3.out.own H3.out.num H3.out.byt.map H3.out.wrd)
  have hbN : B L.mN := MC.out _ (.inl (.inr (.inl rfl)))
  have hbY : B L.mB := MC.out _ (.inl (.inr (.inr (.inl rfl))))
  have hbW : B L.mW := MC.out _ (.inl (.inr (.inr (.inr (.inl rfl)))))
  refine planL_ef rfl ?_
  refine wpList_delV rfl (.tmp 19) (.tmp 20) 76 3 rfl 34 Tryz.intKeyed Tryz.underlying76 L.mN s.certs.length F.fN rfl H3.out.num.map _ _ rfl IK.out ?_
  intro w4 n4 hm4 hn4 _ k4
  refine ⟨.inr ⟨cell_of (k4.obj AP.out.bN H3.out.own) rfl, cell_of (k4.obj (fun e => by have := HB.out _ hbN; omega) OI3.out) rfl⟩, planL_nil ?_⟩
  have NUM4 := Lib.hid (NumIn.drop HI.out HM.out H3.out.num k4 hm4 (hn4 (by rw [HF.out]; rfl)))
  have BYT4 := Lib.hid (H3.out.byt.chg k4 (fun e => D0.out.1 e.symm))
  have WRD4 := Lib.hid (H3.out.wrd.chg k4 (fun e => D0.out.2.1 e.symm) (fun k hk => AP.out.rN k hk))
  have OW4 := Lib.hid (k4.obj AP.out.bN H3.out.own)
  have OB4 := Lib.hid (k4.obj (fun e => by have := HB.out _ hbN; omega) OB3.out)
  have OI4 := Lib.hid (k4.obj (fun e => by have := HB.out _ hbN; omega) OI3.out)
  have HC4 := Lib.hid (HC3.out.chg k4 (fun k hk => AP.out.cN k hk))
  have K4 := Lib.hid (show Chg B w w4 from (K3.out.mono (fun _ _ e => e.elim)).trans (k4.mono (fun k hk e => by rw [e]; exact hbN)))
  clear hm4 hn4 k4 H3 HC3 K3 OI3 OB3 HF IK
  generalize putV F.fN (.int .i64 (i : Int)) none = fN' at *
  have hs4 : w.heap.size < w4.heap.size := by have := lt_of_obj OI4.out; omega
  have EN := Lib.hid (encode_any w4 ⟨kind, sg, sp, fr, f, t, n⟩ sa sc C HC4.out (fun k hk => by have := CI.out k hk; omega))
  unfold certV EncRes at EN
  simp only at EN
  have p0 := cell_of (o := 0) OB4.out rfl
  have p1 := cell_of (o := 1) OB4.out rfl
  have p2 := cell_of (o := 2) OB4.out rfl
  have p3 := cell_of (o := 3) OB4.out rfl
  have p4 := cell_of (o := 4) OB4.out rfl
  have p5 := cell_of (o := 5) OB4.out rfl
  have p6 := cell_of (o := 6) OB4.out rfl
  go_wp2_with fail
  clear p0 p1 p2 p3 p4 p5 p6
  (with_reducible refine (EN.out).mono ?_)
  rintro e w5 ⟨(⟨_, rfl⟩ | ⟨hbad, _⟩), k5⟩
  rotate_left
  · rw [HCB.out] at hbad; cases hbad
  obtain ⟨ce, hce⟩ : ∃ ce : ByteArray, ce = ⟨(certE ⟨kind, sg, sp, fr, f, t, n⟩).toArray⟩ := ⟨_, rfl⟩
  have hcd : certE ⟨kind, sg, sp, fr, f, t, n⟩ = ce.data.toList := by rw [hce]
  have hcs : ce.size ≤ 400 := by have := CE.out; rw [hcd, size_list] at this; exact this
  rw [← hce]
  have HCD := Lib.hid hcd
  clear hce hcd EN CE
  have KEY := Lib.hid (skey_of ce (by unfold maxLen; omega))
  have NUM5 := Lib.hid (NUM4.out.chg k5 (fun e => e) (fun _ _ e => e))
  have BYT5 := Lib.hid (BYT4.out.chg k5 (fun e => e))
  have WRD5 := Lib.hid (WRD4.out.chg k5 (fun e => e) (fun _ _ e => e))
  have OW5 := Lib.hid (k5.obj (fun e => e) OW4.out)
  have OB5 := Lib.hid (k5.obj (fun e => e) OB4.out)
  have OI5 := Lib.hid (k5.obj (fun e => e) OI4.out)
  have HC5 := Lib.hid (HC4.out.chg k5 (fun _ _ e => e))
  have K5 := Lib.hid (K4.out.trans (k5.mono (fun _ _ e => e.elim)))
  clear k5 NUM4 BYT4 WRD4 OW4 OB4 OI4 HC4 K4
  have c4 : w5.cell? ⟨L.b, 4, none⟩ = some (.map (some L.mB)) := cell_of OW5.out rfl
  obtain ⟨w6, n6, hdel, hn6, hm6, k6⟩ := BYT5.out.map.del Tryz.strKeyed Tryz.underlying77 KEY.out 0
  have AP := Lib.hid (apart_of OW5.out NUM5.out BYT5.out.map WRD5.out)
  have HN6 := Lib.hid (show n6 + 1 = s.certs.length from by rw [BYT5.out.says, ← HCD.out, HI.out.numOf_mem HM.out] at hn6; exact hn6)
  rw [← HCD.out] at hm6
  have BYT6 := Lib.hid (ByteIn.drop HI.out HM.out BYT5.out.says hm6 HN6.out)
  have NUM6 := Lib.hid (NUM5.out.chg k6 D0.out.1 (fun k hk => AP.out.cB k hk))
  have WRD6 := Lib.hid (WRD5.out.chg k6 (fun e => D0.out.2.2.1 e.symm) (fun k hk => AP.out.rB k hk))
  have OW6 := Lib.hid (k6.obj AP.out.bB OW5.out)
  have OB6 := Lib.hid (k6.obj (fun e => by have := HB.out _ hbY; omega) OB5.out)
  have OI6 := Lib.hid (k6.obj (fun e => by have := HB.out _ hbY; omega) OI5.out)
  have HC6 := Lib.hid (HC5.out.chg k6 (fun k hk => AP.out.cB k hk))
  have K6 := Lib.hid (K5.out.trans (k6.mono (fun k hk e => by rw [e]; exact hbY)))
  have q3 := cell_of (o := 3) OB6.out rfl
  clear hn6 hm6 k6 NUM5 BYT5 WRD5 OW5 OB5 OI5 HC5 K5 KEY HCD AP
  generalize putV F.fB (.string (certE ⟨kind, sg, sp, fr, f, t, n⟩)) none = fB' at *
  go_wp2_with fail
  clear q3 hdel c4
  go_loopw [36] (fun iv wr => ∃ (k : Nat) (nW' : Nat) (fW' : Lit → Option Value), k ≤ fr.length ∧ iv = .int .i64 k ∧ Hid (wr.heap[L.b]? = some (.cells (storeCells s L) 80 (0, 0)) ∧ NumIn wr L.mN fN' C (s.drop i) ∧ ByteIn wr L.mB fB' (s.drop i) ∧ WordIn wr L.mW nW' fW' (abD s i ⟨kind, sg, sp, fr, f, t, n⟩ k) ∧ nW' ≤ 16 * s.next ∧ (∀ j, RowB fW' j → RowB F.fW j) ∧ CertAt wr (.slice sa fr.length sc) C ⟨kind, sg, sp, fr, f, t, n⟩ ∧ Chg B w6 wr)) (fun iv _ => fr.length - (intOf iv).toNat)
  case atStart => exact ⟨0, nW, F.fW, by omega, rfl, Lib.hid ⟨OW6.out, NUM6.out, BYT6.out, by rw [abD_zero]; exact WRD6.out, D0.out.2.2.2, fun j hj => hj, HC6.out, Chg.refl _ _⟩⟩
  case round =>
    obtain ⟨k, nW', fW', hk, rfl, HI2⟩ := hrel
    clear OW6 NUM6 BYT6 WRD6
    obtain ⟨ow, num, byt, wrd, hnw, hrow, hca, kc⟩ := HI2.out
    have OW := Lib.hid ow
    have NUM := Lib.hid num
    have BYT := Lib.hid byt
    have WRD := Lib.hid wrd
    have ROW := Lib.hid hrow
    have HCA := Lib.hid hca
    have KC := Lib.hid kc
    clear HI2 ow num byt wrd hrow kc hca
    by_cases hlt : k < fr.length
    · obtain ⟨x, hx⟩ : ∃ x, fr[k]? = some x := ⟨_, List.getElem?_eq_getElem hlt⟩
      obtain ⟨_, _, e1, _, hcl⟩ := HCA.out.set.at_
      cases e1
      obtain ⟨lb, lo, e2, _, c0, hxs⟩ := hcl k x hx
      cases e2
      obtain ⟨hab, hab2⟩ := abD_step (s := s) (i := i) (c := ⟨kind, sg, sp, fr, f, t, n⟩) FND.out hx
      have hne := about_has HM.out (List.mem_of_getElem? hx)
      have hal := about_len HI.out x
      obtain ⟨v, hv, hov⟩ := WRD.out.rowS x (by rw [hab]; exact hne)
      rw [hab] at hov
      obtain ⟨va, vc, rfl⟩ := own_shape hov
      have AP := Lib.hid (apart_of OW.out NUM.out BYT.out.map WRD.out)
      have AB := Lib.hid hab2
      have HV := Lib.hid hv
      have HO := Lib.hid hov
      have VR := Lib.hid (show ∀ k, (Value.slice va (s.about x).length vc).ownBlock = some k → RowB fW' k from fun k hk => ⟨x, _, hv, hk⟩)
      have WK := Lib.hid (wkey_of x hxs)
      have ZS := Lib.hid (Tryz.zeroInts)
      have c5 : wr.cell? ⟨L.b, 5, none⟩ = some (.map (some L.mW)) := cell_of OW.out rfl
      have ci := cell_of (o := 0) (KC.out.obj (fun e => by have := HB.out _ e; omega) OI6.out) rfl
      have DL := Lib.hid (del_own wr 0 _ (s.about x) i w.heap.size hov (by omega) hne ci (fun e => by
        have := HB.out _ (MC.out _ (.inl (.inr (.inr (.inr (.inr (ROW.out _ (VR.out _ e))))))))
        omega))
      clear hcl hx hab hab2 hne hv hov hxs
      go_wp2_with (at_lookup; refine wpList_lookV rfl (.tmp 43) (.tmp 44) 78 rfl 23 42 Tryz.wordKeyed Tryz.underlying78 _ (ZS.out _) L.mW nW' fW' rfl WRD.out.map _ (wlit x) rfl WK.out (.slice va (s.about x).length vc) (by rw [HV.out]; rfl) ?_)
      go_wp2_with fail
      (with_reducible refine (DL.out).mono ?_)
      rintro e w7 ⟨v7, rfl, o7, hb7, k7⟩
      have hl7 : ((s.about x).filter fun j => !decide (j = i)).length ≤ 200 := Nat.le_trans (List.length_filter_le _ _) hal
      have O7 := Lib.hid o7
      have G7 := Lib.hid (And.intro k7 hb7)
      have MW7 := Lib.hid (WRD.out.map.chg k7 (fun e => AP.out.rW _ (VR.out _ e) rfl))
      have OW7 := Lib.hid (k7.obj (fun e => AP.out.rb _ (VR.out _ e) rfl) OW.out)
      have NUM7 := Lib.hid (NUM.out.chg k7 (fun e => AP.out.rN _ (VR.out _ e) rfl) (fun k hk e => AP.out.rC k (VR.out _ e) hk))
      have BYT7 := Lib.hid (BYT.out.chg k7 (fun e => AP.out.rB _ (VR.out _ e) rfl))
      have HC7 := Lib.hid (HCA.out.chg k7 (fun k hk e => AP.out.rC k (VR.out _ e) hk))
      have KC7 := Lib.hid (KC.out.trans (k7.mono (fun k _ e => MC.out _ (.inl (.inr (.inr (.inr (.inr (ROW.out _ (VR.out _ e)))))))) ))
      have c57 : w7.cell? ⟨L.b, 5, none⟩ = some (.map (some L.mW)) := cell_of OW7.out rfl
      obtain ⟨a7, cp7, rfl⟩ := own_shape o7
      clear o7 hb7 k7 DL c0 c5 ci OW NUM BYT HCA KC
      generalize hfl : ((s.about x).filter fun j => !decide (j = i)) = fl at *
      have HFL := Lib.hid hfl
      clear hfl
      by_cases hz : fl = []
      · subst hz
        obtain ⟨w8, n8, hdel, hn8, hm8, k8⟩ := MW7.out.del Tryz.wordKeyed Tryz.underlying78 WK.out 0
        have hn8 : n8 ≤ nW' := by split at hn8 <;> omega
        have WRD8 := Lib.hid (WRD.out.del (x := x) (by rw [HV.out]; rfl) G7.out.1 hm8 k8)
        rw [AB.out] at WRD8
        have OW8 := Lib.hid (k8.obj AP.out.bW OW7.out)
        have NUM8 := Lib.hid (NUM7.out.chg k8 D0.out.2.1 (fun k hk => AP.out.cW k hk))
        have BYT8 := Lib.hid (BYT7.out.chg k8 D0.out.2.2.1)
        have HC8 := Lib.hid (HC7.out.chg k8 (fun k hk => AP.out.cW k hk))
        have KC8 := Lib.hid (KC7.out.trans (k8.mono (fun k hk e => by rw [e]; exact hbW)))
        have ROW8 := Lib.hid (show ∀ j, RowB (putV fW' (wlit x) none) j → RowB F.fW j from fun j hj => ROW.out j (rowB_del hj))
        simp only [List.length_nil] at O7 ⊢
        clear hm8 k8 WRD OW7 NUM7 BYT7 HC7 KC7 MW7 G7 O7 HV HO VR WK AP AB ROW
        go_wp2
        go_roundw
        case rel => exact ⟨k + 1, n8, _, by omega, by go_num, Lib.hid ⟨OW8.out, NUM8.out, BYT8.out, WRD8.out, by omega, ROW8.out, HC8.out, KC8.out⟩⟩
        case measure => simp [intOf]; omega
      · have hz1 : 1 ≤ fl.length := by
          cases fl with
          | nil => exact absurd rfl hz
          | cons a r => simp
        have g1 : ((fl.length : Int) == 0) = false := beq_eq_false_iff_ne.2 (by omega)
        have HZ := Lib.hid hz
        clear hz
        go_wp2_with (at_mapUpdate; refine wpList_putV rfl (.tmp 59) (.tmp 60) (.tmp 61) 78 rfl 23 42 Tryz.wordKeyed Tryz.underlying78 L.mW nW' fW' rfl MW7.out ?e1 (.string x) (.slice a7 fl.length cp7) (wlit x) rfl rfl WK.out ?e2)
        case e1 => unfold maxLen; omega
        intro w8 n8 hm8 hn8 _ _ k8
        have hn8 : n8 = nW' := hn8 (by rw [HV.out]; rfl)
        have WRD8 := Lib.hid (WRD.out.put (x := x) (l := fl) HZ.out (by rw [HV.out]; rfl) G7.out.1 O7.out (.inl G7.out.2) hm8 k8)
        rw [AB.out] at WRD8
        have OW8 := Lib.hid (k8.obj AP.out.bW OW7.out)
        have NUM8 := Lib.hid (NUM7.out.chg k8 D0.out.2.1 (fun k hk => AP.out.cW k hk))
        have BYT8 := Lib.hid (BYT7.out.chg k8 D0.out.2.2.1)
        have HC8 := Lib.hid (HC7.out.chg k8 (fun k hk => AP.out.cW k hk))
        have KC8 := Lib.hid (KC7.out.trans (k8.mono (fun k hk e => by rw [e]; exact hbW)))
        have ROW8 := Lib.hid (show ∀ j, RowB (putV fW' (wlit x) (some (.slice a7 fl.length cp7))) j → RowB F.fW j from fun j hj => by
          rcases rowB_put hj with q | q
          · exact ROW.out j q
          · rw [G7.out.2] at q
            exact ROW.out j (VR.out j q))
        have hn8 : n8 ≤ 16 * s.next := by omega
        clear hm8 k8 WRD OW7 NUM7 BYT7 HC7 KC7 MW7 G7 O7 HV HO VR WK AP AB ROW
        go_wp2
        go_roundw
        case rel => exact ⟨k + 1, n8, _, by omega, by go_num, Lib.hid ⟨OW8.out, NUM8.out, BYT8.out, WRD8.out, by omega, ROW8.out, HC8.out, KC8.out⟩⟩
        case measure => simp [intOf]; omega
    · obtain rfl : k = fr.length := by omega
      have KF := Lib.hid (K6.out.trans KC.out)
      have SIN := Lib.hid (show StoreIn wr L ⟨fN', fB', fW'⟩ nW' C (s.drop i) from ⟨OW.out, NUM.out, BYT.out, by rw [← abD_all HI.out HM.out]; exact WRD.out, D0.out.1, D0.out.2.1, D0.out.2.2.1, hnw⟩)
      have PI := Lib.hid (HI.out.drop i)
      have RB := Lib.hid (show ∀ k, Mut L ⟨fN', fB', fW'⟩ k ∨ C k → B k from fun k hk => by
        rcases hk with (e | e | e | e | e) | e
        · exact MC.out k (.inl (.inl e))
        · exact MC.out k (.inl (.inr (.inl e)))
        · exact MC.out k (.inl (.inr (.inr (.inl e))))
        · exact MC.out k (.inl (.inr (.inr (.inr (.inl e)))))
        · exact MC.out k (.inl (.inr (.inr (.inr (.inr (ROW.out k e))))))
        · exact MC.out k (.inr e))
      clear OW NUM BYT WRD KC
      go_wp2
      go_end0
      exact ⟨fun k => B k, rfl, ⟨L, _, _, _, rfl, SIN.out, PI.out, RB.out, fun k hk => Nat.lt_of_lt_of_le (HB.out k hk) KF.out.size⟩, KF.out, fun k hk => .inl hk⟩
end Go.Proofs.YtdgmjablkdemmaaGreat

namespace Go.Proofs.YtdgmjablkdemmaaGreat
open Go.RowKit Go.Maps

theorem drops_snoc : ∀ (l : List Nat) (s : PStore) (i : Nat), dropsS s (l ++ [i]) = (dropsS s l).drop i
  | [], _, _ => rfl
  | a :: l, s, i => drops_snoc l (s.drop a) i
theorem drops_inv : ∀ (l : List Nat) {s : PStore}, PInv s → PInv (dropsS s l)
  | [], _, h => h
  | i :: l, _, h => drops_inv l (h.drop i)
def PStore.turned (s : PStore) : PStore := ⟨s.room, s.next, s.turn + 1, s.certs⟩
theorem StoreAt.turned {w : World} {b : Nat} {B : Nat → Prop} {s : PStore} (h : StoreAt w b B s) : StoreAt (w.setCell ⟨b, 2, none⟩ (.int .i64 ((s.turn : Int) + 1))) b B s.turned ∧ Chg B w (w.setCell ⟨b, 2, none⟩ (.int .i64 ((s.turn : Int) + 1))) := by
  obtain ⟨L, F, nW, C, rfl, h1, hi, hMC, hB⟩ := h
  have AP := apart_of h1.own h1.num h1.byt.map h1.wrd
  have kc := chg_cell w L.b 2 (.int .i64 ((s.turn : Int) + 1))
  have ho := obj_setCell (o := 2) h1.own (.int .i64 ((s.turn : Int) + 1))
  have n1 := h1.num.chg kc (fun e => AP.bN e.symm) (fun k hk => AP.cb k hk)
  have n2 := h1.byt.chg kc (fun e => AP.bB e.symm)
  have n3 := h1.wrd.chg kc (fun e => AP.bW e.symm) (fun k hk => AP.rb k hk)
  exact ⟨⟨L, F, nW, C, rfl, ⟨ho, ⟨n1.map, n1.noneS, n1.someS, n1.typ⟩, ⟨n2.map, n2.says⟩, n3, h1.d1, h1.d2, h1.d3, h1.bnd⟩, ⟨hi.room1, hi.room2, hi.len, hi.num, hi.lt, hi.ok, hi.dif⟩, hMC, fun k hk => Nat.lt_of_lt_of_le (hB k hk) kc.size⟩, kc.mono (fun k _ e => by rw [e]; exact hMC _ (.inl (.inl rfl)))⟩
theorem sweep_eq {s : PStore} (h : PInv s) (t : Int) : sweepS s t = if 0 < (s.gone t).length then (dropsS s (s.gone t)).turned else dropsS s (s.gone t) := by
  obtain ⟨_, h2, h3, h4⟩ := drops_certs (s.gone t) s
  have h1 := drops_gone h t
  unfold sweepS PStore.turned
  split
  · rw [h1, h2, h3, h4]
  · generalize dropsS s (s.gone t) = d at *
    obtain ⟨a, b, c, e⟩ := d
    simp only at h1 h2 h3 h4
    rw [h1, h2, h3, h4]
theorem gone_take {s : PStore} (h : PInv s) {t : Int} {k i : Nat} (hk : (s.gone t)[k]? = some i) : ∃ c, (i, c) ∈ (dropsS s ((s.gone t).take k)).certs := by
  obtain ⟨c, hc, _⟩ := mem_which.1 (List.mem_of_getElem? hk)
  refine ⟨c, ?_⟩
  rw [(drops_certs _ s).1]
  refine List.mem_filter.2 ⟨hc, ?_⟩
  simp only [decide_eq_true_eq]
  intro hm
  obtain ⟨j, hj⟩ := List.mem_iff_getElem?.1 hm
  rw [List.getElem?_take] at hj
  split at hj
  · have hnd : (s.gone t).Nodup := (which_sorted h _).imp (fun q => by omega)
    have := (List.getElem?_inj (List.getElem?_eq_some_iff.1 hk).1 hnd).1 (hk.trans hj.symm)
    omega
  · cases hj
def SweepRes (w : World) (b : Nat) (B : Nat → Prop) (l : List Nat) (s' : PStore) (e : Ending) (w' : World) : Prop :=
  ∃ v B', e = .returned v ∧ w'.ownsRow w.heap.size 3 1 v l.length (ints l) ∧ StoreAt w' b B' s' ∧ Chg B w w' ∧ (∀ k, B' k → B k ∨ w.heap.size ≤ k) ∧ ∀ k, v.ownBlock = some k → ¬ B' k
set_option maxHeartbeats 4000000 in
set_option maxRecDepth 100000 in
theorem sweep_any (w : World) (b : Nat) (B : Nat → Prop) (s : PStore) (t : Int) (h : StoreAt w b B s) (hn : s.next ≤ 1000000) (ht : s.turn ≤ 1000000) :
    Calls Tryz.prog 12 #[.pointer (some ⟨b, 0, none⟩), .int .i64 t] w (SweepRes w b B (s.gone t) (sweepS s t)) := by
  have kb := chg_alloc (fun _ => False) w (.cells #[.int .i64 t] 2)
  have ob := obj_alloc_new w (.cells #[.int .i64 t] 2)
  have h0 := h.chg kb (fun _ _ e => e)
  have WH := Lib.hid (which_any (w.alloc (.cells #[.int .i64 t] 2)) b B s 43 #[.pointer (some ⟨w.heap.size, 0, none⟩)] (fun c => decide (c.t < t)) h0 (enters_of Tryz.func43 (by kernel_rfl) rfl) (fun W c sa sn sc k => sweepF_any W c sa sn sc t w.heap.size (cell_of (k.obj (fun e => e) ob) rfl)))
  have hsz : w.heap.size ≤ (w.alloc (.cells #[.int .i64 t] 2)).heap.size := kb.size
  have HB := Lib.hid (fun k (hk : B k) => h.lt hk)
  have KB := Lib.hid kb
  have H0 := Lib.hid h0
  have HI := Lib.hid h.inv
  have EQ := Lib.hid (sweep_eq h.inv t)
  have GL : (s.gone t).length ≤ 200 := Nat.le_trans (which_len s _) (Nat.le_trans h.inv.len h.inv.room2)
  have NX := Lib.hid (fun l => drops_certs l s)
  have GT := Lib.hid (fun k i (hk : (s.gone t)[k]? = some i) => gone_take h.inv hk)
  have WG : s.which (fun c => decide (c.t < t)) = s.gone t := rfl
  rw [WG] at WH
  generalize hgl : s.gone t = gl at *
  clear kb ob h0 h WG hgl
  generalize sweepS s t = s' at *
  go_enter Tryz.func12, Tryz.ntmps12
  go_wp2_with fail
  generalize w.alloc (.cells #[.int .i64 t] 2) = wa at *
  (with_reducible refine (WH.out).mono ?_)
  rintro e w2 ⟨v, rfl, ho, k2⟩
  obtain ⟨a, c, rfl⟩ := own_shape ho
  have HO := Lib.hid (own_base ho hsz)
  have K2 := Lib.hid (show Chg B w w2 from (KB.out.trans k2).mono (fun _ _ e => e.elim))
  have H2 := Lib.hid (H0.out.chg k2 (fun _ _ e => e))
  clear ho k2 WH KB H0
  go_wp2_with fail
  go_loopw [13] (fun iv wr => ∃ (k : Nat) (B' : Nat → Prop), k ≤ gl.length ∧ iv = .int .i64 k ∧ Hid (StoreAt wr b B' (dropsS s (gl.take k)) ∧ wr.ownsRow w.heap.size 3 1 (.slice a gl.length c) gl.length (ints gl) ∧ (∀ k, B' k → B k ∨ w2.heap.size ≤ k) ∧ Chg B w wr ∧ w2.heap.size ≤ wr.heap.size)) (fun iv _ => gl.length - (intOf iv).toNat)
  case atStart => exact ⟨0, B, by omega, rfl, Lib.hid ⟨H2.out, HO.out, fun k hk => .inl hk, K2.out, Nat.le_refl _⟩⟩
  case round =>
    obtain ⟨k, B', hk, rfl, HI2⟩ := hrel
    obtain ⟨hst, hor, hbb, hkc, hss⟩ := HI2.out
    have HS := Lib.hid hst
    have HR := Lib.hid hor
    have HBB := Lib.hid hbb
    have HK := Lib.hid hkc
    clear HI2 hst hor hbb hkc
    by_cases hlt : k < gl.length
    · obtain ⟨i, hx⟩ : ∃ i, gl[k]? = some i := ⟨_, List.getElem?_eq_getElem hlt⟩
      obtain ⟨cc, hcc⟩ := GT.out k i hx
      obtain ⟨_, _, e1, _, hcl⟩ := own_get HR.out
      cases e1
      obtain ⟨g, rfl, hgb, c0⟩ := hcl k (.int .i64 (i : Int)) (by unfold ints; rw [List.getElem?_map, hx]; rfl)
      have DR := Lib.hid (drop_any wr b B' _ i cc HS.out hcc (by rw [(NX.out _).2.2.1]; exact hn))
      have ST := Lib.hid (show dropsS s (gl.take (k + 1)) = (dropsS s (gl.take k)).drop i from by rw [List.take_add_one, hx]; exact drops_snoc _ _ _)
      have hrow : g < w2.heap.size := (HO.out.lt g rfl).2
      clear hcl hcc hx
      go_wp2_with fail
      (with_reducible refine (DR.out).mono ?_)
      rintro e w5 ⟨B5, rfl, h5, k5, hb5⟩
      have S5 := Lib.hid h5
      rw [← ST.out] at S5
      have R5 := Lib.hid (own_chg HR.out k5 (fun k hk hB' => by
        have hgk : g = k := by simpa [Value.ownBlock] using hk
        rcases HBB.out k hB' with q | q
        · have := HB.out k q; omega
        · omega))
      have K5 := Lib.hid (HK.out.next k5 (fun k hk e => by
        rcases HBB.out k e with q | q
        · exact q
        · have := K2.out.size; omega))
      have BB5 := Lib.hid (show ∀ k, B5 k → B k ∨ w2.heap.size ≤ k from fun k hk => by
        rcases hb5 k hk with q | q
        · exact HBB.out k q
        · exact .inr (by omega))
      have hs5 : w2.heap.size ≤ w5.heap.size := Nat.le_trans hss k5.size
      clear h5 k5 hb5 DR HS HR HBB HK c0 ST
      go_wp2
      go_roundw
      case rel => exact ⟨k + 1, B5, by omega, by go_num, Lib.hid ⟨S5.out, R5.out, BB5.out, K5.out, hs5⟩⟩
      case measure => simp [intOf]; omega
    · obtain rfl : k = gl.length := by omega
      rw [List.take_length] at HS
      have TR := Lib.hid (NX.out gl).2.2.2
      have RN := Lib.hid (show ∀ k, (Value.slice a gl.length c).ownBlock = some k → ¬ B' k from fun k hk hb' => by
        have h1 := HO.out.lt k hk
        rcases HBB.out k hb' with q | q
        · have := HB.out k q; omega
        · omega)
      have BF := Lib.hid (show ∀ k, B' k → B k ∨ w.heap.size ≤ k from fun k hk => by
        rcases HBB.out k hk with q | q
        · exact .inl q
        · exact .inr (by have := K2.out.size; omega))
      by_cases hz : 0 < gl.length
      · rw [if_pos hz] at EQ
        have e1 : decide (0 < (gl.length : Int)) = true := decide_eq_true (by omega)
        have e2 : decide (0 < gl.length) = true := decide_eq_true hz
        obtain ⟨tt, ktt⟩ := HS.out.turned
        rw [TR.out, ← EQ.out] at tt
        rw [TR.out] at ktt
        have c2 : wr.cell? ⟨b, 2, none⟩ = some (.int .i64 (s.turn : Int)) := by
          obtain ⟨L, F, nW, C, rfl, h1, _, _, _⟩ := HS.out
          rw [← TR.out]
          exact cell_of h1.own rfl
        have f2 : wr.frozen? ⟨b, 2, none⟩ = false := by
          obtain ⟨L, F, nW, C, rfl, h1, _, _, _⟩ := HS.out
          exact frozen_of h1.own
        have x2 : IntKind.i64.wrap ((s.turn : Int) + 1) = (s.turn : Int) + 1 := by rw [IntKind.wrap_i64]; omega
        have FR := Lib.hid (own_chg HR.out ktt RN.out)
        have FK := Lib.hid (HK.out.next ktt (fun k hk e => by
          rcases BF.out k e with q | q
          · exact q
          · omega))
        have FS := Lib.hid tt
        clear tt ktt HS HR HBB HK
        go_wp2
        go_ret
        exact ⟨_, B', rfl, FR.out, FS.out, FK.out, BF.out, RN.out⟩
      · rw [if_neg hz] at EQ
        have e1 : decide (0 < (gl.length : Int)) = false := decide_eq_false (by omega)
        have e2 : decide (0 < gl.length) = false := decide_eq_false hz
        rw [← EQ.out] at HS
        go_wp2
        go_ret
        exact ⟨_, B', rfl, HR.out, HS.out, HK.out, BF.out, RN.out⟩
end Go.Proofs.YtdgmjablkdemmaaGreat

namespace Go.Proofs.YtdgmjablkdemmaaGreat
open Go.RowKit Go.Maps

/-- n is the least of those that P says, behind t; there is none, where is is false. -/
structure Best (P : Int → Prop) (t n : Int) (is : Bool) : Prop where
  yes : is = true → t < n ∧ P n
  all : ∀ x, P x → t < x → is = true ∧ n ≤ x
  no : is = false → n = 0
def Border (c : BCert) (x : Int) : Prop := x = c.f ∨ x = c.t + 1
def Borders (s : PStore) (x : Int) : Prop := ∃ q ∈ s.certs, Border q.2 x
theorem Best.congr {P P' : Int → Prop} {t n : Int} {is : Bool} (h : Best P t n is) (hp : ∀ x, P x ↔ P' x) : Best P' t n is :=
  ⟨fun e => ⟨(h.yes e).1, (hp n).1 (h.yes e).2⟩, fun x hx => h.all x ((hp x).2 hx), h.no⟩
def stepN (t n : Int) (is : Bool) (x : Int) : Int × Bool := if t < x ∧ (is = false ∨ x < n) then (x, true) else (n, is)
theorem Best.step {P : Int → Prop} {t n : Int} {is : Bool} (h : Best P t n is) (x : Int) : Best (fun y => P y ∨ y = x) t (stepN t n is x).1 (stepN t n is x).2 := by
  unfold stepN
  split
  · rename_i q
    refine ⟨fun _ => ⟨q.1, .inr rfl⟩, fun y hy hty => ⟨rfl, ?_⟩, fun e => by cases e⟩
    rcases hy with hy | hy
    · obtain ⟨h1, h2⟩ := h.all y hy hty
      rcases q.2 with q2 | q2
      · rw [h1] at q2; cases q2
      · simp only; omega
    · subst hy; exact Int.le_refl _
  · rename_i q
    refine ⟨fun e => ⟨(h.yes e).1, .inl (h.yes e).2⟩, fun y hy hty => ?_, h.no⟩
    rcases hy with hy | hy
    · exact h.all y hy hty
    · subst hy
      have q1 : ¬ (is = false ∨ y < n) := fun e => q ⟨hty, e⟩
      have : is = true := by
        cases is with
        | true => rfl
        | false => exact absurd (.inl rfl) q1
      exact ⟨this, Int.not_lt.1 (fun e => q1 (.inr e))⟩
/-- The borders of those that a range has seen. -/
def Seen (s : PStore) (left : Lit → Bool) (x : Int) : Prop := ∃ q ∈ s.certs, left (.int .i64 (q.1 : Int)) = false ∧ Border q.2 x
theorem Seen.more {s : PStore} (hi : PInv s) {left : Lit → Bool} {i : Nat} {c : BCert} (hm : (i, c) ∈ s.certs) (x : Int) :
    ((Seen s left x ∨ x = c.f) ∨ x = c.t + 1) ↔ Seen s (fun z => left z && !z.sameKey (.int .i64 (i : Int))) x := by
  constructor
  · rintro ((⟨q, h1, h2, h3⟩ | h) | h)
    · exact ⟨q, h1, by simp [h2], h3⟩
    · exact ⟨_, hm, by simp [int_same], .inl h⟩
    · exact ⟨_, hm, by simp [int_same], .inr h⟩
  · rintro ⟨q, h1, h2, h3⟩
    by_cases e : q.1 = i
    · have := hi.num_inj h1 hm e
      subst this
      rcases h3 with h3 | h3
      · exact .inl (.inr h3)
      · exact .inr h3
    · refine .inl (.inl ⟨q, h1, ?_, h3⟩)
      simp only [int_same, Bool.and_eq_false_iff, Bool.not_eq_false', decide_eq_true_eq] at h2
      rcases h2 with h2 | h2
      · exact h2
      · omega
set_option maxRecDepth 100000 in
theorem idx0 (w : World) (f u : Int) : (Instr.index 88 (.agg #[.int .i64 f, .int .i64 u]) (.int .i64 0)).run Tryz.prog w = .ok (.int .i64 f) w := by
  kernel_rfl
set_option maxRecDepth 100000 in
theorem idx1 (w : World) (f u : Int) : (Instr.index 88 (.agg #[.int .i64 f, .int .i64 u]) (.int .i64 1)).run Tryz.prog w = .ok (.int .i64 u) w := by
  kernel_rfl
def NextRes (w : World) (s : PStore) (t : Int) (e : Ending) (w' : World) : Prop := ∃ n is, e = .returned (.tuple #[.int .i64 n, .bool is]) ∧ Best (Borders s) t n is ∧ Chg (fun _ => False) w w'
set_option maxHeartbeats 4000000 in
set_option maxRecDepth 100000 in
theorem next_any (w : World) (b : Nat) (B : Nat → Prop) (s : PStore) (t : Int) (h : StoreAt w b B s) :
    Calls Tryz.prog 14 #[.pointer (some ⟨b, 0, none⟩), .int .i64 t] w (NextRes w s t) := by
  obtain ⟨L, F, nW, C, rfl, h1, hi, _, _⟩ := h
  have c3 : w.cell? ⟨L.b, 3, none⟩ = some (.map (some L.mN)) := cell_of (o := 3) h1.own rfl
  have HN := Lib.hid h1.num
  have HI := Lib.hid hi
  have hlt := h1.num.map.lt
  clear h1 hi
  have i0 := idx0
  have i1 := idx1
  go_enter Tryz.func14, Tryz.ntmps14
  go_wp2_with (at_range; refine wpList_rangeV rfl (.tmp 15) 76 rfl 3 34 Tryz.intKeyed Tryz.underlying76 L.mN s.certs.length F.fN rfl HN.out.map ?fnext)
  intro w8 r8 k8 z8
  have R8 := Lib.hid r8
  have K8 := Lib.hid k8
  clear r8 k8 z8
  go_wp2
  have START := Lib.hid (show ∀ x, Seen s (fun kl => (F.fN kl).isSome) x → False from fun x hx => by
    obtain ⟨q, hq, hl, _⟩ := hx
    obtain ⟨sa, sc, e, _⟩ := HN.out.someS _ _ (HI.out.get_mem hq)
    simp only [e] at hl
    cases hl)
  go_loopw [6, 7] (fun nv fv wr => ∃ (n : Int) (is : Bool), nv = .int .i64 n ∧ fv = .bool is ∧ Hid (Chg (fun _ => False) w wr ∧ ∃ left cnt, RangeV Tryz.prog 3 wr L.mN w.heap.size s.certs.length F.fN left cnt ∧ Best (Seen s left) t n is)) (fun _ _ wr => wr.rangeLeft L.mN w.heap.size)
  case atStart => exact ⟨0, false, rfl, rfl, Lib.hid ⟨K8.out, _, _, R8.out, ⟨fun e => (by cases e), fun x hx _ => (START.out x hx).elim, fun _ => rfl⟩⟩⟩
  case round =>
    obtain ⟨n, is, rfl, rfl, hr⟩ := hrel
    obtain ⟨hc, left, cnt, hrg, hbs⟩ := hr.out
    have HC := Lib.hid hc
    have HRG := Lib.hid hrg
    have HBS := Lib.hid hbs
    have ML := Lib.hid (show wr.rangeLeft L.mN w.heap.size = cnt from hrg.left_eq)
    clear hr hc hrg hbs
    go_wp2_with (at_next; refine wpList_nextV rfl (.tmp 16) rfl 3 .i64 Tryz.intKeyed Tryz.underlying3 L.mN w.heap.size s.certs.length F.fN left cnt rfl HRG.out ?gdone ?gmore)
    · intro _ hz
      have DN := Lib.hid (HBS.out.congr (P' := Borders s) (fun x => ⟨fun ⟨q, h1, _, h3⟩ => ⟨q, h1, h3⟩, fun ⟨q, h1, h3⟩ => ⟨q, h1, hz _, h3⟩⟩))
      go_wp2
      go_ret2
      exact ⟨n, is, rfl, DN.out, HC.out⟩
    · intro x v w9 cnt' hlx hfx r9 c9 k9 s9 hen
      cases hg : s.get x with
      | none => rw [HN.out.noneS x hg] at hfx; cases hfx
      | some c =>
      obtain ⟨i, rfl, hm⟩ := get_some hg
      obtain ⟨sa, sc, hf, _⟩ := HN.out.someS _ c hg
      rw [hfx] at hf
      cases hf
      have k9f : Chg (fun _ => False) w w9 := HC.out.next k9 (fun k hk e => by omega)
      have hmay := certB_may (HI.out.ok _ hm)
      have m1 := hmay.t0
      have m2 := hmay.t1
      have SM := Lib.hid (Seen.more HI.out (left := left) hm)
      obtain ⟨kind, sg, sp, fr, f, u, num⟩ := c
      simp only at m1 m2 SM
      have kb := chg_alloc (fun _ => False) w9 (.cells #[.int .i64 kind, .int .u16 (sg : Int), .string sp, .slice sa fr.length sc, .int .i64 f, .int .i64 u, .int .i64 num] 34)
      have R9 := Lib.hid (r9.chg kb (fun e => e) (fun e => e))
      have K9 := Lib.hid (k9f.trans kb)
      have C9 := Lib.hid c9
      have x1 : IntKind.i64.wrap (u + 1) = u + 1 := by rw [IntKind.wrap_i64]; omega
      unfold certV at hen
      simp only at hen
      clear hlx hg hfx r9 c9 k9 s9 k9f kb HRG hm hmay
      go_wp2
      generalize w9.alloc (.cells #[.int .i64 kind, .int .u16 (sg : Int), .string sp, .slice sa fr.length sc, .int .i64 f, .int .i64 u, .int .i64 num] 34) = wa at *
      go_loopw [6, 7, 27] (fun nv fv iv wr2 => ∃ (n2 : Int) (is2 : Bool), nv = .int .i64 n2 ∧ fv = .bool is2 ∧ Hid (wr2 = wa) ∧ ((iv = .int .i64 0 ∧ Hid (Best (Seen s left) t n2 is2)) ∨ (iv = .int .i64 1 ∧ Hid (Best (fun y => Seen s left y ∨ y = f) t n2 is2)) ∨ (iv = .int .i64 2 ∧ Hid (Best (fun y => (Seen s left y ∨ y = f) ∨ y = u + 1) t n2 is2)))) (fun _ _ iv _ => 2 - (intOf iv).toNat)
      case atStart => exact ⟨n, is, rfl, rfl, Lib.hid (by first | trivial | rfl), .inl ⟨rfl, HBS⟩⟩
      case round =>
        obtain ⟨n2, is2, rfl, rfl, hw, (⟨rfl, BE⟩ | ⟨rfl, BE⟩ | ⟨rfl, BE⟩)⟩ := hrel
        all_goals (have hw := hw.out; subst hw; clear HBS)
        rotate_left 2
        · have FB := Lib.hid (BE.out.congr SM.out)
          clear SM
          go_wp2
          go_roundw
          case rel => exact ⟨n2, is2, rfl, rfl, Lib.hid ⟨K9.out, _, _, R9.out, FB.out⟩⟩
          case measure => rw [ML.out, R9.out.left_eq]; exact C9.out
        · have ST := Lib.hid (BE.out.step (f))
          by_cases q1 : t < f
          · have b1 : decide (t < f) = true := decide_eq_true q1
            cases is2 with
            | false =>
              rw [show stepN t n2 false (f) = (f, true) from by unfold stepN; rw [if_pos ⟨q1, .inl rfl⟩]] at ST
              go_wp2
              go_roundw
              case rel => exact ⟨f, true, rfl, rfl, Lib.hid (by first | trivial | rfl), .inr (.inl ⟨rfl, ST⟩)⟩
              case measure => simp [intOf]
            | true =>
              by_cases q2 : f < n2
              · have b2 : decide (f < n2) = true := decide_eq_true q2
                rw [show stepN t n2 true (f) = (f, true) from by unfold stepN; rw [if_pos ⟨q1, .inr q2⟩]] at ST
                go_wp2
                go_roundw
                case rel => exact ⟨f, true, rfl, rfl, Lib.hid (by first | trivial | rfl), .inr (.inl ⟨rfl, ST⟩)⟩
                case measure => simp [intOf]
              · have b2 : decide (f < n2) = false := decide_eq_false q2
                rw [show stepN t n2 true (f) = (n2, true) from by unfold stepN; rw [if_neg (fun e => by rcases e.2 with q | q; cases q; exact q2 q)]] at ST
                go_wp2
                go_roundw
                case rel => exact ⟨n2, true, rfl, rfl, Lib.hid (by first | trivial | rfl), .inr (.inl ⟨rfl, ST⟩)⟩
                case measure => simp [intOf]
          · have b1 : decide (t < f) = false := decide_eq_false q1
            rw [show stepN t n2 is2 (f) = (n2, is2) from by unfold stepN; rw [if_neg (fun e => q1 e.1)]] at ST
            go_wp2
            go_roundw
            case rel => exact ⟨n2, is2, rfl, rfl, Lib.hid (by first | trivial | rfl), .inr (.inl ⟨rfl, ST⟩)⟩
            case measure => simp [intOf]
        · have ST := Lib.hid (BE.out.step (u + 1))
          by_cases q1 : t < u + 1
          · have b1 : decide (t < u + 1) = true := decide_eq_true q1
            cases is2 with
            | false =>
              rw [show stepN t n2 false (u + 1) = (u + 1, true) from by unfold stepN; rw [if_pos ⟨q1, .inl rfl⟩]] at ST
              go_wp2
              go_roundw
              case rel => exact ⟨u + 1, true, rfl, rfl, Lib.hid (by first | trivial | rfl), .inr (.inr ⟨rfl, ST⟩)⟩
              case measure => simp [intOf]
            | true =>
              by_cases q2 : u + 1 < n2
              · have b2 : decide (u + 1 < n2) = true := decide_eq_true q2
                rw [show stepN t n2 true (u + 1) = (u + 1, true) from by unfold stepN; rw [if_pos ⟨q1, .inr q2⟩]] at ST
                go_wp2
                go_roundw
                case rel => exact ⟨u + 1, true, rfl, rfl, Lib.hid (by first | trivial | rfl), .inr (.inr ⟨rfl, ST⟩)⟩
                case measure => simp [intOf]
              · have b2 : decide (u + 1 < n2) = false := decide_eq_false q2
                rw [show stepN t n2 true (u + 1) = (n2, true) from by unfold stepN; rw [if_neg (fun e => by rcases e.2 with q | q; cases q; exact q2 q)]] at ST
                go_wp2
                go_roundw
                case rel => exact ⟨n2, true, rfl, rfl, Lib.hid (by first | trivial | rfl), .inr (.inr ⟨rfl, ST⟩)⟩
                case measure => simp [intOf]
          · have b1 : decide (t < u + 1) = false := decide_eq_false q1
            rw [show stepN t n2 is2 (u + 1) = (n2, is2) from by unfold stepN; rw [if_neg (fun e => q1 e.1)]] at ST
            go_wp2
            go_roundw
            case rel => exact ⟨n2, is2, rfl, rfl, Lib.hid (by first | trivial | rfl), .inr (.inr ⟨rfl, ST⟩)⟩
            case measure => simp [intOf]
end Go.Proofs.YtdgmjablkdemmaaGreat
