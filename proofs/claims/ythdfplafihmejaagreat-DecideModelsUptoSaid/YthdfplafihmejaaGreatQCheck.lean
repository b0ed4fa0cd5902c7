/-
  Package proof: Heavy, leads; Check in plain Lean.
  Package proof: Check.
-/
import Derived.Test.YthdfplafihmejaaGreatQNum
import Derived.Test.YthdfplafihmejaaGreatQReach
import Derived.Test.YthdfplafihmejaaGreatCCheck
import Derived.Test.YthdfplafihmejaaGreatQNeed
namespace Go.Proofs.YthdfplafihmejaaGreat
open Go.RowKit Go.Maps

/-! Heavy -/
def heavyI (x : BItem) : Nat := (x.paths.map List.length).sum
def heavyE (p : BProof) : Nat := p.steps.length + (p.items.map heavyI).sum
/-! leads -/
def leadsB (R : List BRul) (x u : ByteArray) (l : BSteps) : Bool := mayB x.data.toList && (match walkI (R.map brul) x.data.toList l with
 | some y => decide (bar y = u)
 | none => false)
set_option maxRecDepth 100000 in
theorem leads13_any (w : World) (v sv : Value) (R : List BRul) (l : BSteps) (x u : ByteArray) (hv : RulesAt w v (· < w.heap.size) R) (hl : StepsAt w sv (· < w.heap.size) l) (hx : x.size ≤ maxLen) :
  Calls Tryz.prog 73 #[v, .string x, .string u, sv] w fun e w' => e = .returned (.bool (leadsB R x u l)) ∧ Chg (fun _ => False) w w' := by
 unfold leadsB
 cases hm : mayB x.data.toList with
 | false =>
  rw [Bool.false_and]
  obtain ⟨la, cap, rfl, _, _⟩ := hv
  obtain ⟨ka, kc, rfl, _, _⟩ := hl
  have WF := Lib.hid (walk_form w la ka R.length cap l.length kc x hx hm)
  clear hm
  go_enter Tryz.func73, Tryz.ntmps73
  go_wp2_with fail
  (with_reducible refine (WF.out).mono ?_)
  rintro e w2 ⟨rfl, k2⟩
  go_wp2
  go_ret
  exact ⟨rfl, k2⟩
 | true =>
  rw [Bool.true_and]
  have WA := walk_any w v sv R l x hv hl hm
  clear hm hv hl
  cases hw : walkI (R.map brul) x.data.toList l with
  | none =>
   rw [hw] at WA
   unfold walkV at WA
   simp only at WA ⊢
   have WA := Lib.hid WA
   clear hw
   go_enter Tryz.func73, Tryz.ntmps73
   go_wp2_with fail
   (with_reducible refine (WA.out).mono ?_)
   rintro e w2 ⟨rfl, k2⟩
   have K2 := Lib.hid k2
   clear WA k2
   go_wp2
   go_ret
   exact ⟨rfl, K2.out⟩
  | some y =>
   rw [hw] at WA
   unfold walkV at WA
   simp only at WA ⊢
   have WA := Lib.hid WA
   clear hw
   have g1 : ((bar y).toList == u.toList) = decide (bar y = u) := str_eq _ _
   generalize decide (bar y = u) = b at g1 ⊢
   generalize bar y = yy at *
   go_enter Tryz.func73, Tryz.ntmps73
   go_wp2_with fail
   (with_reducible refine (WA.out).mono ?_)
   rintro e w2 ⟨rfl, k2⟩
   have K2 := Lib.hid k2
   clear WA k2
   go_wp2
   go_ret
   exact ⟨by first | rfl | simp, K2.out⟩
/-! Check -/
def pathsB (R : List BRul) (c : BCert) (ps : List BSteps) : Bool := (List.range ps.length).all fun j => leadsB R (c.fr.getD j ⟨#[]⟩) (atomW c.sg) (ps.getD j [])
/-- What is wrong with an item; 0: nothing. -/
def itemE (R : List BRul) (C : List BCert) (seen : List Nat) (x : BItem) : Int := if x.cert < 0 ∨ (C.length : Int) ≤ x.cert then 1 else if x.cert.toNat ∈ seen then 11 else match C[x.cert.toNat]? with
 | none => 1
 | some c => if certB c = true ∧ x.paths.length = c.fr.length then (if pathsB R c x.paths = true then 0 else 13) else 2
def rulesI (C : List BCert) (x : BItem) : List BRul := match C[x.cert.toNat]? with
 | some c => crules c
 | none => []
def checkI (C : List BCert) : List BRul → List Nat → List BItem → Int × List BRul
 | R, _, [] => (0, R)
 | R, seen, x :: I => if itemE R C seen x = 0 then checkI C (R ++ rulesI C x) (seen ++ [x.cert.toNat]) I else (itemE R C seen x, R)
def check13 (R : List BRul) (C : List BCert) (p : BProof) (x u : ByteArray) : Int := if (checkI C R [] p.items).1 = 0 then (if leadsB (checkI C R [] p.items).2 x u p.steps = true then 0 else 13) else (checkI C R [] p.items).1
end Go.Proofs.YthdfplafihmejaaGreat

namespace Go.Proofs.YthdfplafihmejaaGreat
open Go.RowKit Go.Maps

/-- Check, on the way: the proof's box, what was seen, the rules. -/
structure ChkIn (w wr : World) (iv sv : Value) (gs n : Nat) (rv : Value) (R : List BRul) (seen : List Nat) : Prop where
 box : wr.heap[w.heap.size]? = some (.cells #[iv, sv] 83 (0, 0))
 sn : wr.heap[gs]? = some (.cells (inCells n seen).toArray 4 (0, 0))
 row : wr.ownsRow w.heap.size 66 2 rv R.length (ruleCells R)
 ch : Chg (fun _ => False) w wr
 low : w.heap.size ≤ gs
theorem ChkIn.chg {w wr w' : World} {iv sv rv : Value} {gs n : Nat} {R : List BRul} {seen : List Nat} (h : ChkIn w wr iv sv gs n rv R seen) (k : Chg (fun _ => False) wr w') : ChkIn w w' iv sv gs n rv R seen :=
 ⟨k.obj (fun e => e) h.box, k.obj (fun e => e) h.sn, own_chg h.row k (fun _ _ e => e), h.ch.trans k, h.low⟩
theorem ChkIn.see {w wr : World} {iv sv rv : Value} {gs n i : Nat} {R : List BRul} {seen : List Nat} (h : ChkIn w wr iv sv gs n rv R seen) (hi : i < n) : ChkIn w (wr.setCell ⟨gs, i, none⟩ (.bool true)) iv sv gs n rv R (seen ++ [i]) := by
 have kc := chg_cell wr gs i (.bool true)
 refine ⟨kc.obj (fun e => ty_ne13 h.box h.sn (by decide) e) h.box, ?_, own_chg h.row kc (fun k hk e => ?_), h.ch.next kc (fun k hk e => by have := h.low; omega), h.low⟩
 ·have := obj_setCell (o := i) h.sn (.bool true)
  rw [this]
  congr 2
  rw [List.setIfInBounds_toArray, inCells_set hi]
 ·obtain ⟨cs, q⟩ := own_cells h.row hk
  exact ty_ne13 q h.sn (by decide) e
theorem ChkIn.more {w wr w' : World} {iv sv rv rv' : Value} {gs n : Nat} {R M : List BRul} {seen : List Nat} (h : ChkIn w wr iv sv gs n rv R seen) (hg : wr.grownBy w' rv.ownBlock) (ho : w'.ownsRow w.heap.size 66 2 rv' (R.length + M.length) (ruleCells R ++ ruleCells M)) : ChkIn w w' iv sv gs n rv' (R ++ M) seen := by
 have kg := Chg.of_grown hg
 refine ⟨kg.obj (fun e => ?_) h.box, kg.obj (fun e => ?_) h.sn, by rw [List.length_append, ruleCells_append]; exact ho, h.ch.next kg (fun k hk e => by have := (h.row.lt k e).1; omega), h.low⟩
 ·obtain ⟨cs, q⟩ := own_cells h.row e
  exact ty_ne13 q h.box (by decide) rfl
 ·obtain ⟨cs, q⟩ := own_cells h.row e
  exact ty_ne13 q h.sn (by decide) rfl
theorem crules_sizes {c : BCert} {G : Nat → Prop} {w : World} {v : Value} (h : CertAt w v G c) : ∀ r ∈ crules c, r.1.size ≤ maxLen ∧ r.2.size ≤ maxLen := fun r hr => by
 unfold crules at hr
 obtain ⟨x, hx, rfl⟩ := List.mem_map.1 hr
 refine ⟨?_, h.sp⟩
 obtain ⟨la, cap, _, _, hc⟩ := h.set.at_
 obtain ⟨j, hj⟩ := List.mem_iff_getElem?.1 hx
 obtain ⟨_, _, _, _, _, q⟩ := hc j x hj
 exact q
theorem pathsB_to {R : List BRul} {c : BCert} {ps : List BSteps} (h : ∀ (j : Nat) x l, c.fr[j]? = some x → ps[j]? = some l → leadsB R x (atomW c.sg) l = true) (hl : ps.length = c.fr.length) : pathsB R c ps = true := by
 unfold pathsB
 rw [List.all_eq_true]
 intro j hj
 have hjl := List.mem_range.1 hj
 have h1 : c.fr[j]? = some (c.fr.getD j ⟨#[]⟩) := by
  rw [List.getD_eq_getElem?_getD, List.getElem?_eq_getElem (by omega)]; rfl
 have h2 : ps[j]? = some (ps.getD j []) := by
  rw [List.getD_eq_getElem?_getD, List.getElem?_eq_getElem hjl]; rfl
 exact h j _ _ h1 h2
theorem pathsB_no {R : List BRul} {c : BCert} {ps : List BSteps} {j : Nat} {x : ByteArray} {l : BSteps} (h1 : c.fr[j]? = some x) (h2 : ps[j]? = some l) (h : leadsB R x (atomW c.sg) l = false) : pathsB R c ps = false := by
 cases hb : pathsB R c ps with
 | false => rfl
 | true =>
  unfold pathsB at hb
  rw [List.all_eq_true] at hb
  have := hb j (List.mem_range.2 (List.getElem?_eq_some_iff.1 h2).1)
  rw [List.getD_eq_getElem?_getD, h1, List.getD_eq_getElem?_getD, h2] at this
  simp only [Option.getD_some] at this
  rw [h] at this
  cases this
theorem checkI_stop {C : List BCert} {R : List BRul} {seen : List Nat} {I : List BItem} {k : Nat} {x : BItem} {e : Int} (hx : I[k]? = some x) (h : itemE R C seen x = e) (he : e ≠ 0) : checkI C R seen (I.drop k) = (e, R) := by
 have hk := (List.getElem?_eq_some_iff.1 hx).1
 rw [List.drop_eq_getElem_cons hk, (List.getElem?_eq_some_iff.1 hx).2]
 unfold checkI
 rw [if_neg (by rw [h]; exact he), h]
theorem checkI_go {C : List BCert} {R : List BRul} {seen : List Nat} {I : List BItem} {k : Nat} {x : BItem} (hx : I[k]? = some x) (h : itemE R C seen x = 0) : checkI C R seen (I.drop k) = checkI C (R ++ rulesI C x) (seen ++ [x.cert.toNat]) (I.drop (k + 1)) := by
 have hk := (List.getElem?_eq_some_iff.1 hx).1
 rw [List.drop_eq_getElem_cons hk, (List.getElem?_eq_some_iff.1 hx).2]
 conv => lhs; unfold checkI
 rw [if_pos h]
theorem madeIn (n : Nat) : (madeCells #[Value.bool false] n).toList = inCells n [] := inCells_none n
set_option maxHeartbeats 16000000 in
set_option maxRecDepth 100000 in
theorem check_any13 (w : World) (ra : Option Addr) (R : List BRul) (rc : Nat) (v iv sv : Value) (P : List (BCert × Value)) (p : BProof) (x u : ByteArray) (hR : RulesAt w (.slice ra R.length rc) (· < w.heap.size) R) (hnil : ra = none → R.length = 0 ∧ rc = 0) (hRl : R.length ≤ 1000000000) (hv : CertsAt w v (· < w.heap.size) P) (hPl : P.length ≤ 1000) (hp : ProofAt w iv sv (· < w.heap.size) p) (hI : p.items.length ≤ 1000) (hx : x.size ≤ maxLen) :
  Calls Tryz.prog 42 #[.slice ra R.length rc, v, .agg #[iv, sv], .string x, .string u] w fun e w' => e = .returned (.int .i64 (check13 R (certsOf P) p x u)) ∧ Chg (fun _ => False) w w' := by
 have HV := Lib.hid hv
 have HP := Lib.hid hp
 have HX := Lib.hid hx
 obtain ⟨la, lcap, rfl, hl0, _⟩ := hv
 obtain ⟨ia, ic, rfl⟩ := hp.items.shape
 obtain ⟨sa, sc, rfl⟩ := hp.steps.shape
 have CL := certsOf_length P
 have RSZ := Lib.hid (show ∀ r ∈ R, r.1.size ≤ maxLen ∧ r.2.size ≤ maxLen from fun r hr => by
  obtain ⟨_, _, _, _, q⟩ := hR
  obtain ⟨j, hj⟩ := List.mem_iff_getElem?.1 hr
  obtain ⟨_, _, _, _, _, _, q2⟩ := q j r hj
  exact q2)
 have kb := chg_alloc (fun _ => False) w (.cells #[.slice ia p.items.length ic, .slice sa p.steps.length sc] 83)
 have OB := Lib.hid (obj_alloc_new w (.cells #[.slice ia p.items.length ic, .slice sa p.steps.length sc] 83))
 have KB := Lib.hid kb
 have CLN := Lib.hid (rclone_any (w.alloc (.cells #[.slice ia p.items.length ic, .slice sa p.steps.length sc] 83)) ra R rc (· < w.heap.size) (hR.chg kb (fun _ _ e => e)) hnil hRl)
 have hs1 : w.heap.size ≤ (w.alloc (.cells #[.slice ia p.items.length ic, .slice sa p.steps.length sc] 83)).heap.size := kb.size
 have CE := Lib.hid (show check13 R (certsOf P) p x u = if (checkI (certsOf P) R [] (p.items.drop 0)).1 = 0 then (if leadsB (checkI (certsOf P) R [] (p.items.drop 0)).2 x u p.steps = true then 0 else 13) else (checkI (certsOf P) R [] (p.items.drop 0)).1 from rfl)
 generalize check13 R (certsOf P) p x u = res at *
 obtain ⟨CI, hCI⟩ : ∃ CI : List BRul → List Nat → Nat → Int × List BRul, CI = fun R seen k => checkI (certsOf P) R seen (p.items.drop k) := ⟨_, rfl⟩
 have CE2 := Lib.hid (show res = if (CI R [] 0).1 = 0 then (if leadsB (CI R [] 0).2 x u p.steps = true then 0 else 13) else (CI R [] 0).1 from by rw [hCI]; exact CE.out)
 obtain ⟨IE, hIE⟩ : ∃ IE : List BRul → List Nat → BItem → Int, IE = fun R seen x => itemE R (certsOf P) seen x := ⟨_, rfl⟩
 have STOP := Lib.hid (fun R seen k (y : BItem) (e : Int) (hy : p.items[k]? = some y) (h : IE R seen y = e) (he : e ≠ 0) => show CI R seen k = (e, R) from by rw [hCI]; rw [hIE] at h; exact checkI_stop hy h he)
 have GO := Lib.hid (fun R seen k (y : BItem) (hy : p.items[k]? = some y) (h : IE R seen y = 0) => show CI R seen k = CI (R ++ rulesI (certsOf P) y) (seen ++ [y.cert.toNat]) (k + 1) from by rw [hCI]; rw [hIE] at h; exact checkI_go hy h)
 have END := Lib.hid (fun R seen => show CI R seen p.items.length = (0, R) from by rw [hCI]; simp only [List.drop_length]; rfl)
 have IE1 := Lib.hid (fun R seen (y : BItem) (h : y.cert < 0 ∨ (P.length : Int) ≤ y.cert) => show IE R seen y = 1 from by rw [hIE]; unfold itemE; rw [CL]; exact if_pos h)
 have IE2 := Lib.hid (fun R seen (y : BItem) (h : ¬ (y.cert < 0 ∨ (P.length : Int) ≤ y.cert)) (h2 : y.cert.toNat ∈ seen) => show IE R seen y = 11 from by rw [hIE]; unfold itemE; rw [CL]; simp only; rw [if_neg h, if_pos h2])
 have IE3 := Lib.hid (fun R seen (y : BItem) (c : Nat) q (hc : y.cert = (c : Int)) (hq : P[c]? = some q) (h2 : c ∉ seen) => show IE R seen y = if certB q.1 = true ∧ y.paths.length = q.1.fr.length then (if pathsB R q.1 y.paths = true then 0 else 13) else 2 from by
  have hcl := (List.getElem?_eq_some_iff.1 hq).1
  rw [hIE]
  unfold itemE
  rw [CL]
  simp only
  rw [hc, Int.toNat_natCast, if_neg (by omega), if_neg h2, certsOf_get hq])
 have RI := Lib.hid (fun (y : BItem) (c : Nat) q (hc : y.cert = (c : Int)) (hq : P[c]? = some q) => show rulesI (certsOf P) y = crules q.1 from by
  unfold rulesI
  rw [hc, Int.toNat_natCast, certsOf_get hq])
 clear CE CL hCI hIE hR hnil hp hx kb
 obtain ⟨bi, hbi, hbz, hb1, hb2⟩ := Tryz.boolInfo
 go_enter Tryz.func42, Tryz.ntmps42
 go_wp2_with fail
 generalize w.alloc (.cells #[.slice ia p.items.length ic, .slice sa p.steps.length sc] 83) = w1 at *
 (with_reducible refine (CLN.out).mono ?_)
 rintro e w2 ⟨v2, rfl, o2, k2⟩
 obtain ⟨a2, c2, rfl⟩ := own_shape o2
 have K2 := Lib.hid (KB.out.trans k2)
 have OB2 := Lib.hid (k2.obj (fun e => e) OB.out)
 have O2 := Lib.hid (own_base o2 hs1)
 have hs2 : w.heap.size ≤ w2.heap.size := K2.out.size
 clear CLN o2 k2 KB OB
 go_wp2_with (at_make; refine wpList_make_full _ rfl (.tmp 22) (.tmp 22) 145 rfl w.heap.size 4 bi (.bool false) 1 Tryz.underlying145 hbi hbz hb1 .i64 .i64 (P.length : Int) (P.length : Int) P.length rfl rfl rfl rfl ?b2 ?b3 ?b4 ?next)
 case b2 => rw [hb2]; omega
 case b3 => unfold maxLen; omega
 case b4 => exact hs2
 intro w4 own4 g4
 have k4 := (Chg.of_grown g4).mono (T := fun _ => False) (fun _ _ e => by cases e)
 obtain ⟨hnd, _, _⟩ := own_obj13 own4
 have CI0 := Lib.hid (show ChkIn w w4 (.slice ia p.items.length ic) (.slice sa p.steps.length sc) w2.heap.size P.length (.slice a2 R.length c2) R [] from
  ⟨k4.obj (fun e => e) OB2.out, by rw [← madeIn]; first | exact hnd | simpa using hnd, own_chg O2.out k4 (fun _ _ e => e), K2.out.trans k4, hs2⟩)
 have q0 := cell_of (o := 0) CI0.out.box rfl
 clear own4 g4 k4 hnd hbi hbz hb1 hb2 OB2 O2 K2
 go_wp2_with fail
 clear q0
 generalize w2.heap.size = gs at *
 go_loopw [11, 27] (fun rv iv wr => ∃ (k : Nat) (Rk : List BRul) (seen : List Nat), k ≤ p.items.length ∧ Rk.length ≤ R.length + k * 1000 ∧ iv = .int .i64 k ∧ Hid (ChkIn w wr (.slice ia p.items.length ic) (.slice sa p.steps.length sc) gs P.length rv Rk seen ∧ (∀ r ∈ Rk, r.1.size ≤ maxLen ∧ r.2.size ≤ maxLen) ∧ CI R [] 0 = CI Rk seen k)) (fun _ iv _ => p.items.length - (intOf iv).toNat)
 case atStart => exact ⟨0, R, [], by omega, by omega, rfl, Lib.hid ⟨CI0.out, RSZ.out, rfl⟩⟩
 case round =>
  obtain ⟨k, Rk, seen, hk, hRk, rfl, HI⟩ := hrel
  obtain ⟨a3, c3, er⟩ := own_shape HI.out.1.row
  subst er
  have CN := Lib.hid HI.out.1
  have RS := Lib.hid HI.out.2.1
  have EQ := Lib.hid HI.out.2.2
  clear HI CI0
  by_cases hlt : k < p.items.length
  ·as_aux_lemma =>
   obtain ⟨y, hy⟩ : ∃ y, p.items[k]? = some y := ⟨_, List.getElem?_eq_getElem hlt⟩
   have ERR := Lib.hid (fun (e : Int) (h : IE Rk seen y = e) (he : e ≠ 0) => show res = e from by
    rw [CE2.out, EQ.out, STOP.out Rk seen k y e hy h he]
    simp only
    rw [if_neg he])
   have NEXT := Lib.hid (fun (h : IE Rk seen y = 0) => show CI R [] 0 = CI (Rk ++ rulesI (certsOf P) y) (seen ++ [y.cert.toNat]) (k + 1) from by rw [EQ.out, GO.out Rk seen k y hy h])
   have J1 := Lib.hid (IE1.out Rk seen y)
   have J2 := Lib.hid (IE2.out Rk seen y)
   have J3 := Lib.hid (IE3.out Rk seen y)
   have RIY := Lib.hid (RI.out y)
   obtain ⟨_, _, e1, _, hcl⟩ := HP.out.items
   cases e1
   obtain ⟨lb, lo, pv, rfl, _, j0, j1, hpa⟩ := hcl k _ hy
   have hpl := hpa.len
   obtain ⟨pa, pc, rfl⟩ := hpa.shape
   have i0 := cell_chg CN.out.ch (fun e => e) j0
   have i1 := cell_chg CN.out.ch (fun e => e) j1
   have HPA := Lib.hid hpa
   obtain ⟨cert, paths⟩ := y
   simp only at i0 i1 hpl HPA J1 J2 J3 RIY NEXT
   have kx := chg_alloc (fun _ => False) wr (.cells #[.int .i64 cert, .slice pa paths.length pc] 98)
   have OX := Lib.hid (obj_alloc_new wr (.cells #[.int .i64 cert, .slice pa paths.length pc] 98))
   have CX := Lib.hid (CN.out.chg kx)
   clear hcl hy hpa j0 j1 kx CN EQ STOP GO END IE1 IE2 IE3 RI CE2
   go_upto_region 6 with fail
   clear i0 i1
   generalize wr.alloc (.cells #[.int .i64 cert, .slice pa paths.length pc] 98) = wx at *
   generalize wr.heap.size = bx at *
   have x0 := cell_of (o := 0) OX.out rfl
   by_cases hc0 : cert < 0
   ·have g2 : decide (cert < 0) = true := decide_eq_true hc0
    have E := Lib.hid (ERR.out 1 (J1.out (.inl hc0)) (by decide))
    clear hc0
    go_wp2
    go_ret
    exact ⟨by rw [E.out]; rfl, CX.out.ch⟩
   have g2 : decide (cert < 0) = false := decide_eq_false hc0
   obtain ⟨c, rfl⟩ : ∃ c : Nat, cert = (c : Int) := ⟨cert.toNat, by omega⟩
   by_cases hc1 : c < P.length
   rotate_left
   ·have g3 : decide ((P.length : Int) ≤ (c : Int)) = true := decide_eq_true (by omega)
    have g4 : decide (P.length ≤ c) = true := decide_eq_true (by omega)
    have E := Lib.hid (ERR.out 1 (J1.out (.inr (by omega))) (by decide))
    go_wp2
    go_ret
    exact ⟨by rw [E.out]; rfl, CX.out.ch⟩
   have g3 : decide ((P.length : Int) ≤ (c : Int)) = false := decide_eq_false (by omega)
   have g4 : decide (P.length ≤ c) = false := decide_eq_false (by omega)
   obtain ⟨pq, hpq⟩ : ∃ pq, P[c]? = some pq := ⟨_, List.getElem?_eq_getElem hc1⟩
   have hnot : ¬ ((c : Int) < 0 ∨ (P.length : Int) ≤ (c : Int)) := by omega
   clear hc0
   have sc0 : wx.cell? ⟨gs, c, none⟩ = some (.bool (decide (c ∈ seen))) := cell_of (o := c) CX.out.sn (by rw [List.getElem?_toArray]; exact inCells_get hc1)
   by_cases hse : c ∈ seen
   ·have E := Lib.hid (ERR.out 11 (J2.out hnot (by simpa using hse)) (by decide))
    rw [decide_eq_true hse] at sc0
    clear hse hnot hpq
    go_wp2
    go_ret
    exact ⟨by rw [E.out]; rfl, CX.out.ch⟩
   rw [decide_eq_false hse] at sc0
   have I3 := Lib.hid (J3.out c pq rfl hpq hse)
   have RIC := Lib.hid (RIY.out c pq rfl hpq)
   have fz := frozen_of (o := c) CX.out.sn
   have kset := chg_cell wx gs c (.bool true)
   have CS := Lib.hid (CX.out.see hc1)
   have OS := Lib.hid (kset.obj (fun e => ty_ne13 OX.out CX.out.sn (by decide) e) OX.out)
   obtain ⟨_, _, e1, _, hcv⟩ := HV.out
   cases e1
   obtain ⟨cg, co, ca, ccp, rfl, hcg, ecv, cw0, cw1, cw2, cw3, cw4, cw5, cw6, hca⟩ := hcv c pq hpq
   have CA := Lib.hid hca
   obtain ⟨⟨ck, sg, sp, fr, cf, ct, cn⟩, cv⟩ := pq
   simp only at cw0 cw1 cw2 cw3 cw4 cw5 cw6 CA I3 RIC ecv
   have m0 := cell_chg CS.out.ch (fun e => e) cw0
   have m1 := cell_chg CS.out.ch (fun e => e) cw1
   have m2 := cell_chg CS.out.ch (fun e => e) cw2
   have m3 := cell_chg CS.out.ch (fun e => e) cw3
   have m4 := cell_chg CS.out.ch (fun e => e) cw4
   have m5 := cell_chg CS.out.ch (fun e => e) cw5
   have m6 := cell_chg CS.out.ch (fun e => e) cw6
   have xs0 := cell_of (o := 0) OS.out rfl
   have kc := chg_alloc (fun _ => False) (wx.setCell ⟨gs, c, none⟩ (.bool true)) (.cells #[.int .i64 ck, .int .u16 (sg : Int), .string sp, .slice ca fr.length ccp, .int .i64 cf, .int .i64 ct, .int .i64 cn] 64)
   have oc0 := obj_alloc_new (wx.setCell ⟨gs, c, none⟩ (.bool true)) (.cells #[.int .i64 ck, .int .u16 (sg : Int), .string sp, .slice ca fr.length ccp, .int .i64 cf, .int .i64 ct, .int .i64 cn] 64)
   have hsz : (wx.setCell ⟨gs, c, none⟩ (.bool true)).heap.size = wx.heap.size := by simp [World.setCell]
   rw [hsz] at oc0
   have OC := Lib.hid oc0
   clear oc0 hsz
   have CC := Lib.hid (CS.out.chg kc)
   have OXC := Lib.hid (kc.obj (fun e => e) OS.out)
   have CK := check_any ((wx.setCell ⟨gs, c, none⟩ (.bool true)).alloc (.cells #[.int .i64 ck, .int .u16 (sg : Int), .string sp, .slice ca fr.length ccp, .int .i64 cf, .int .i64 ct, .int .i64 cn] 64)) ⟨ck, sg, sp, fr, cf, ct, cn⟩ ca ccp (· < w.heap.size) (CA.out.chg CC.out.ch (fun _ _ e => e))
   unfold certV CheckRes at CK
   have CK := Lib.hid CK
   clear hcv hca ecv cw0 cw1 cw2 cw3 cw4 cw5 cw6 kset kc CX OX CS OS hse hnot hpq J1 J2 J3 RIY
   go_wp2_with fail
   clear x0 sc0 fz m0 m1 m2 m3 m4 m5 m6 xs0
   generalize (wx.setCell ⟨gs, c, none⟩ (.bool true)).alloc (.cells #[.int .i64 ck, .int .u16 (sg : Int), .string sp, .slice ca fr.length ccp, .int .i64 cf, .int .i64 ct, .int .i64 cn] 64) = wc at *
   generalize wx.heap.size = bc at *
   (with_reducible refine (CK.out).mono ?_)
   rintro e w5 ⟨⟨z, rfl, hz⟩, k5⟩
   have C5 := Lib.hid (CC.out.chg k5)
   have OC5 := Lib.hid (k5.obj (fun e => e) OC.out)
   have OX5 := Lib.hid (k5.obj (fun e => e) OXC.out)
   have ZZ := Lib.hid hz
   clear CK k5 CC OC OXC hz
   have r0 := cell_of (o := 0) OC5.out rfl
   have r3 := cell_of (o := 3) OC5.out rfl
   have y1 := cell_of (o := 1) OX5.out rfl
   cases hcb : certB ⟨ck, sg, sp, fr, cf, ct, cn⟩ with
   | false =>
    have g5 : (z != 0) = true := by
     rw [bne_iff_ne]
     intro e
     have := ZZ.out.1 e
     rw [hcb] at this
     cases this
    have E := Lib.hid (ERR.out 2 (by rw [I3.out, if_neg (by rw [hcb]; intro h; cases h.1)]) (by decide))
    clear hcb
    go_wp2
    go_ret
    exact ⟨by rw [E.out]; rfl, C5.out.ch⟩
   | true =>
   obtain rfl : z = 0 := ZZ.out.2 hcb
   have HCB := Lib.hid hcb
   clear hcb ZZ
   have hfr : fr.length ≤ 16 := by
    obtain ⟨_, q, _⟩ := of_decide_eq_true (certB_may HCB.out).fr
    rwa [lists_len] at q
   by_cases hlen : paths.length = fr.length
   rotate_left
   ·have g6 : ((paths.length : Int) != (fr.length : Int)) = true := by rw [bne_iff_ne]; omega
    have g7 : (paths.length != fr.length) = true := by rw [bne_iff_ne]; exact hlen
    have E := Lib.hid (ERR.out 2 (by rw [I3.out, if_neg (fun h => hlen h.2)]) (by decide))
    clear hlen
    go_wp2
    go_ret
    exact ⟨by rw [E.out]; rfl, C5.out.ch⟩
   have g6 : ((paths.length : Int) != (fr.length : Int)) = false := by rw [bne_eq_false_iff_eq]; omega
   have g7 : (paths.length != fr.length) = false := by rw [bne_eq_false_iff_eq]; exact hlen
   have I4 := Lib.hid (show IE Rk seen ⟨(c : Int), paths⟩ = if pathsB Rk ⟨ck, sg, sp, fr, cf, ct, cn⟩ paths = true then 0 else 13 from by rw [I3.out, if_pos ⟨HCB.out, hlen⟩])
   have HLEN := Lib.hid hlen
   have hl1 : paths.length ≤ fr.length := by omega
   have hl2 : fr.length ≤ paths.length := by omega
   clear hlen I3
   have r1 := cell_of (o := 1) OC5.out rfl
   have ks := chg_alloc (fun _ => False) w5 (.cells #[.int .u16 (sg : Int)] 62)
   have WO := Lib.hid (wof1_any (w5.alloc (.cells #[.int .u16 (sg : Int)] 62)) w5.heap.size 0 1 sg CA.out.sg (cell_of (obj_alloc_new w5 (.cells #[.int .u16 (sg : Int)] 62)) rfl))
   have C6 := Lib.hid (C5.out.chg ks)
   have OC6 := Lib.hid (ks.obj (fun e => e) OC5.out)
   have OX6 := Lib.hid (ks.obj (fun e => e) OX5.out)
   clear ks C5 OC5 OX5
   go_wp2_with fail
   clear r0 r1 r3 y1
   generalize w5.alloc (.cells #[.int .u16 (sg : Int)] 62) = w6 at *
   (with_reducible refine (WO.out).mono ?_)
   rintro e w7 ⟨rfl, k7⟩
   have C7 := Lib.hid (C6.out.chg k7)
   have OC7 := Lib.hid (k7.obj (fun e => e) OC6.out)
   have OX7 := Lib.hid (k7.obj (fun e => e) OX6.out)
   have y1 := cell_of (o := 1) OX7.out rfl
   clear WO k7 C6 OC6 OX6
   go_wp2_with fail
   clear y1
   go_loopw [74] (fun jv wr => ∃ j : Nat, j ≤ paths.length ∧ jv = .int .i64 j ∧ Hid (Chg (fun _ => False) w7 wr ∧ ∀ (i : Nat) xx l, i < j → fr[i]? = some xx → paths[i]? = some l → leadsB Rk xx (atomW sg) l = true)) (fun jv _ => paths.length - (intOf jv).toNat)
   case atStart => exact ⟨0, by omega, rfl, Lib.hid ⟨Chg.refl _ _, fun i xx l hi => by omega⟩⟩
   case round =>
    obtain ⟨j, hj, rfl, HJ⟩ := hrel
    have KJ := Lib.hid HJ.out.1
    have ALL := Lib.hid HJ.out.2
    have CJ := Lib.hid (C7.out.chg KJ.out)
    have OCJ := Lib.hid (KJ.out.obj (fun e => e) OC7.out)
    clear HJ
    by_cases hjl : j < paths.length
    ·as_aux_lemma =>
     obtain ⟨l, hl⟩ : ∃ l, paths[j]? = some l := ⟨_, List.getElem?_eq_getElem hjl⟩
     have hjf : j < fr.length := by omega
     obtain ⟨xx, hxx⟩ : ∃ xx, fr[j]? = some xx := ⟨_, List.getElem?_eq_getElem hjf⟩
     obtain ⟨_, _, e1, _, hcl⟩ := HPA.out
     cases e1
     obtain ⟨lb2, lo2, pv2, rfl, _, q0', hst⟩ := hcl j l hl
     obtain ⟨qa, qc, rfl⟩ := hst.shape
     have q0 := cell_chg CJ.out.ch (fun e => e) q0'
     obtain ⟨_, _, e2, _, hwl⟩ := CA.out.set.at_
     cases e2
     obtain ⟨wg, wo, rfl, _, u0', hxs⟩ := hwl j xx hxx
     have u0 := cell_chg CJ.out.ch (fun e => e) u0'
     have r3 := cell_of (o := 3) OCJ.out rfl
     have LD := Lib.hid (leads13_any wr (.slice a3 Rk.length c3) (.slice qa l.length qc) Rk l xx (atomW sg) (rulesAt_own CJ.out.row RS.out) ((hst.chg CJ.out.ch (fun _ _ e => e)).at_.up13 (fun k hk => Nat.lt_of_lt_of_le hk CJ.out.ch.size)) hxs)
     have BAD := Lib.hid (fun (q : leadsB Rk xx (atomW sg) l = false) => ERR.out 13 (by rw [I4.out, if_neg (by rw [pathsB_no hxx hl q]; decide)]) (by decide))
     have GOOD := Lib.hid (fun (q : leadsB Rk xx (atomW sg) l = true) => show ∀ (i : Nat) yy m, i < j + 1 → fr[i]? = some yy → paths[i]? = some m → leadsB Rk yy (atomW sg) m = true from fun i yy m hi hyy hm => by
      rcases Nat.lt_or_ge i j with z | z
      ·exact ALL.out i yy m z hyy hm
      ·obtain rfl : i = j := by omega
       rw [hxx] at hyy; rw [hl] at hm; cases hyy; cases hm; exact q)
     generalize leadsB Rk xx (atomW sg) l = bq at LD BAD GOOD
     clear hcl hl hst q0' hwl hxx u0' hxs ALL
     go_wp2_with fail
     (with_reducible refine (LD.out).mono ?_)
     rintro e w8 ⟨rfl, k8⟩
     have K8 := Lib.hid (KJ.out.trans k8)
     have CH8 := Lib.hid (CJ.out.ch.trans k8)
     clear LD k8 q0 u0 r3
     cases bq with
     | false =>
      have E := Lib.hid (BAD.out rfl)
      go_wp2
      go_ret
      exact ⟨by rw [E.out]; rfl, CH8.out⟩
     | true =>
      have E := Lib.hid (GOOD.out rfl)
      go_wp2
      go_roundw
      case rel => exact ⟨j + 1, by omega, by go_num, Lib.hid ⟨K8.out, E.out⟩⟩
      case measure => simp [intOf]; omega
    ·as_aux_lemma =>
     obtain rfl : j = paths.length := by omega
     have OK := Lib.hid (NEXT.out (by
      rw [I4.out, if_pos]
      exact pathsB_to (fun i xx l hxx hl => ALL.out i xx l (List.getElem?_eq_some_iff.1 hl).1 hxx hl) HLEN.out))
     have CR := crules_any wr ⟨ck, sg, sp, fr, cf, ct, cn⟩ ca ccp (· < w.heap.size) (CA.out.chg CJ.out.ch (fun _ _ e => e)) (by simp only; omega)
     unfold certV at CR
     have CR := Lib.hid CR
     have CSZ := Lib.hid (crules_sizes CA.out)
     have CRL := crules_length ⟨ck, sg, sp, fr, cf, ct, cn⟩
     simp only at CRL
     have hcrl : (crules ⟨ck, sg, sp, fr, cf, ct, cn⟩).length ≤ 1000 := by omega
     obtain ⟨M, hM⟩ : ∃ M, M = crules (⟨ck, sg, sp, fr, cf, ct, cn⟩ : BCert) := ⟨_, rfl⟩
     rw [← hM] at CR CSZ RIC hcrl
     clear CRL hM ALL
     have r0 := cell_of (o := 0) OCJ.out rfl
     have r1 := cell_of (o := 1) OCJ.out rfl
     have r2 := cell_of (o := 2) OCJ.out rfl
     have r3 := cell_of (o := 3) OCJ.out rfl
     have r4 := cell_of (o := 4) OCJ.out rfl
     have r5 := cell_of (o := 5) OCJ.out rfl
     have r6 := cell_of (o := 6) OCJ.out rfl
     go_wp2_with fail
     clear r0 r1 r2 r3 r4 r5 r6
     (with_reducible refine (CR.out).mono ?_)
     rintro e w8 ⟨v8, rfl, o8, k8⟩
     obtain ⟨a8, c8, rfl⟩ := own_shape o8
     have C8 := Lib.hid (CJ.out.chg k8)
     have O8 := Lib.hid o8
     have SRC := Lib.hid (rules_src (rulesAt_own o8 CSZ.out))
     clear CR k8 o8 CJ
     have hb8 : w.heap.size ≤ w8.heap.size := C8.out.ch.size
     have hkb := Nat.mul_le_mul_right 1000 hk
     go_wp2_with (at_builtin; refine wpList_pushS rfl (.tmp 90) (.tmp 92) 22 rfl 66 2 32 Tryz.underlying22 Tryz.elemRule w.heap.size (.slice a3 Rk.length c3) Rk.length (ruleCells Rk) rfl C8.out.row a8 M.length c8 (ruleCells M) rfl ?a1 ?a2 ?a3 ?a4 ?a5 ?a6 ?a7 ?nx1)
     case a1 => exact ruleCells_length M
     case a2 => exact SRC.out
     case a3 =>
      intro e
      subst e
      exact own_nil O8.out
     case a4 => exact ruleCells_one M
     case a5 => omega
     case a6 => unfold maxLen; omega
     case a7 => exact hb8
     intro v9 w9 o9 g9
     obtain ⟨a9, c9, rfl⟩ := own_shape o9
     have C9 := Lib.hid (C8.out.more g9 o9)
     clear o9 g9 C8 O8 SRC
     go_wp2
     go_roundw
     case rel =>
      exact ⟨k + 1, Rk ++ M, seen ++ [c], by omega, by rw [List.length_append]; omega, by go_num, Lib.hid ⟨C9.out, fun r hr => by
       rcases List.mem_append.1 hr with q | q
       ·exact RS.out r q
       ·exact CSZ.out r q, by rw [OK.out, RIC.out]; simp⟩⟩
     case measure => simp [intOf]; omega
  ·as_aux_lemma =>
   obtain rfl : k = p.items.length := by omega
   have E := Lib.hid (show res = if leadsB Rk x u p.steps = true then 0 else 13 from by rw [CE2.out, EQ.out, END.out]; rfl)
   have q1 := cell_of (o := 1) CN.out.box rfl
   have LD := Lib.hid (leads13_any wr (.slice a3 Rk.length c3) (.slice sa p.steps.length sc) Rk p.steps x u (rulesAt_own CN.out.row RS.out) ((HP.out.steps.chg CN.out.ch (fun _ _ e => e)).at_.up13 (fun k hk => Nat.lt_of_lt_of_le hk CN.out.ch.size)) HX.out)
   generalize leadsB Rk x u p.steps = bq at *
   go_wp2_with fail
   (with_reducible refine (LD.out).mono ?_)
   rintro e w5 ⟨rfl, k5⟩
   have K5 := Lib.hid (CN.out.ch.trans k5)
   clear LD k5 q1
   cases bq with
   | true =>
    go_wp2
    go_ret
    exact ⟨by rw [E.out]; rfl, K5.out⟩
   | false =>
    go_wp2
    go_ret
    exact ⟨by rw [E.out]; rfl, K5.out⟩
end Go.Proofs.YthdfplafihmejaaGreat
