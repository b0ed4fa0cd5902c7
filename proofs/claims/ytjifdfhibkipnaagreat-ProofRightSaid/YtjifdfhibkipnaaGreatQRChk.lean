/-
  The reference's Check of proofs.
-/
import Derived.Test.YtjifdfhibkipnaaGreatQRWalk
import Derived.Test.YtjifdfhibkipnaaGreatQChkP
import Derived.Test.YtjifdfhibkipnaaGreatDBack
namespace Go.Proofs.YtjifdfhibkipnaaGreat
open Go.RowKit Go.Maps

theorem mem_certsTo {I : List BItem} {k c : Nat} (h : ∀ (j : Nat) y, j < k → I[j]? = some y → 0 ≤ y.cert) : c ∈ certsTo I k ↔ ∃ (j : Nat) (y : BItem), j < k ∧ I[j]? = some y ∧ y.cert = (c : Int) := by
  unfold certsTo
  rw [List.mem_map]
  refine ⟨fun ⟨y, hy, e⟩ => ?_, fun ⟨j, y, hj, hy, e⟩ => ?_⟩
  · obtain ⟨j, hj⟩ := List.mem_iff_getElem?.1 hy
    rw [List.getElem?_take] at hj
    split at hj
    · rename_i hjk
      have := h j y hjk hj
      exact ⟨j, y, hjk, hj, by omega⟩
    · cases hj
  · exact ⟨y, List.mem_iff_getElem?.2 ⟨j, by rw [List.getElem?_take, if_pos hj]; exact hy⟩, by omega⟩
theorem certsTo_succ {I : List BItem} {k : Nat} {x : BItem} (h : I[k]? = some x) : certsTo I (k + 1) = certsTo I k ++ [x.cert.toNat] := by
  unfold certsTo
  rw [List.take_add_one, h, List.map_append]
  rfl
/-- What Check stands on, on the way. -/
structure RChk (w wr : World) (iv sv rv : Value) (R : List BRul) : Prop where
  box : wr.heap[w.heap.size]? = some (.cells #[iv, sv] 30 (0, 0))
  row : wr.ownsRow (w.heap.size + 1) 69 2 rv R.length (ruleCells R)
  ch : Chg (fun _ => False) w wr
theorem RChk.chg {w wr w' : World} {iv sv rv : Value} {R : List BRul} (h : RChk w wr iv sv rv R) (k : Chg (fun _ => False) wr w') : RChk w w' iv sv rv R :=
  ⟨k.obj (fun e => e) h.box, own_chg h.row k (fun _ _ e => e), h.ch.trans k⟩
theorem RChk.more {w wr w' : World} {iv sv rv rv' : Value} {R M : List BRul} (h : RChk w wr iv sv rv R) (hg : wr.grownBy w' rv.ownBlock) (ho : w'.ownsRow (w.heap.size + 1) 69 2 rv' (R.length + M.length) (ruleCells R ++ ruleCells M)) : RChk w w' iv sv rv' (R ++ M) := by
  have kg := Chg.of_grown hg
  refine ⟨kg.obj (fun e => ?_) h.box, ?_, h.ch.next kg (fun i hi e => ?_)⟩
  · have := (h.row.lt _ e).1; omega
  · rw [List.length_append]
    unfold ruleCells at ho ⊢
    rw [List.flatMap_append]
    exact ho
  · have := (h.row.lt _ e).1; omega
set_option maxHeartbeats 16000000 in
set_option maxRecDepth 100000 in
theorem rcheck13_any (w : World) (ra : Option Addr) (R : List BRul) (rc : Nat) (v iv sv : Value) (P : List (BCert × Value)) (p : BProof) (x u : ByteArray) (hR : RulesAt w (.slice ra R.length rc) (· < w.heap.size) R) (hnil : ra = none → R.length = 0 ∧ rc = 0) (hRl : R.length ≤ 1000) (hv : CertsAt w v (· < w.heap.size) P) (hp : ProofAt w iv sv (· < w.heap.size) p) (hI : p.items.length ≤ 1000) (hfit : ProofFit p) (h47 : Fit47 R) (hcs : ∀ c ∈ certsOf P, c.sp.size ≤ 140737488355328 ∧ Sizes c.fr) (hx : x.size ≤ 140737488355328) :
    Calls Tryz.prog 18 #[.slice ra R.length rc, v, .agg #[iv, sv], .string x, .string u] w fun e w' => e = .returned (.int .i64 (check13 R (certsOf P) p x u)) ∧ Chg (fun _ => False) w w' := by
  have HV := Lib.hid hv
  have HP := Lib.hid hp
  have HX := Lib.hid hx
  have HCS := Lib.hid hcs
  have HFI := Lib.hid hfit
  obtain ⟨la, lcap, rfl, hl0, _⟩ := hv
  obtain ⟨ia, ic, rfl⟩ := hp.items.shape
  obtain ⟨sa, sc, rfl⟩ := hp.steps.shape
  have CL := certsOf_length P
  have h48 : (140737488355328 : Nat) ≤ maxLen := by unfold maxLen; omega
  have H48 := Lib.hid h48
  have kb := chg_alloc (fun _ => False) w (.cells #[.slice ia p.items.length ic, .slice sa p.steps.length sc] 30)
  have ka := chg_alloc (fun _ => False) (w.alloc (.cells #[.slice ia p.items.length ic, .slice sa p.steps.length sc] 30)) (.cells #[] 69)
  have OB := Lib.hid (ka.obj (fun e => e) (obj_alloc_new w (.cells #[.slice ia p.items.length ic, .slice sa p.steps.length sc] 30)))
  have KB := Lib.hid (kb.trans ka)
  have hsz1 : (w.alloc (.cells #[.slice ia p.items.length ic, .slice sa p.steps.length sc] 30)).heap.size = w.heap.size + 1 := World.size_alloc _ _
  have OE0 := own_empty (w.alloc (.cells #[.slice ia p.items.length ic, .slice sa p.steps.length sc] 30)) (w.heap.size + 1) 69 2 (by rw [hsz1]; exact Nat.le_refl _)
  rw [hsz1] at OE0
  have OE := Lib.hid OE0
  have SRC := Lib.hid (rules_src (hR.chg (kb.trans ka) (fun _ _ e => e)))
  have hz : w.heap.size + 1 ≤ ((w.alloc (.cells #[.slice ia p.items.length ic, .slice sa p.steps.length sc] 30)).alloc (.cells #[] 69)).heap.size := by rw [World.size_alloc, hsz1]; omega
  have HNIL := Lib.hid hnil
  have H47 := Lib.hid h47
  have CE := Lib.hid (show check13 R (certsOf P) p x u = if (checkI (certsOf P) R [] (p.items.drop 0)).1 = 0 then (if leadsB (checkI (certsOf P) R [] (p.items.drop 0)).2 x u p.steps = true then 0 else 13) else (checkI (certsOf P) R [] (p.items.drop 0)).1 from rfl)
  generalize check13 R (certsOf P) p x u = res at *
  obtain ⟨CI, hCI⟩ : ∃ CI : List BRul → List Nat → Nat → Int × List BRul, CI = fun R seen k => checkI (certsOf P) R seen (p.items.drop k) := ⟨_, rfl⟩
  have CE2 := Lib.hid (show res = if (CI R [] 0).1 = 0 then (if leadsB (CI R [] 0).2 x u p.steps = true then 0 else 13) else (CI R [] 0).1 from by rw [hCI]; exact CE.out)
  obtain ⟨IE, hIE⟩ : ∃ IE : List BRul → List Nat → BItem → Int, IE = fun R seen x => itemE R (certsOf P) seen x := ⟨_, rfl⟩
  have STOP := Lib.hid (fun R seen k (y : BItem) (e : Int) (hy : p.items[k]? = some y) (h : IE R seen y = e) (he : e ≠ 0) => show CI R seen k = (e, R) from by rw [hCI]; rw [hIE] at h; exact checkI_stop hy h he)
  have GO := Lib.hid (fun R seen k (y : BItem) (hy : p.items[k]? = some y) (h : IE R seen y = 0) => show CI R seen k = CI (R ++ rulesI (certsOf P) y) (seen ++ [y.cert.toNat]) (k + 1) from by rw [hCI]; rw [hIE] at h; exact checkI_go hy h)
  have END := Lib.hid (fun R seen => show CI R seen p.items.length = (0, R) from by rw [hCI]; simp only [List.drop_length]; rfl)
  have IE1 := Lib.hid (fun R seen (y : BItem) (h : y.cert < 0 ∨ (P.length : Int) ≤ y.cert) => show IE R seen y = 1 from by rw [hIE]; unfold itemE; rw [CL]; exact if_pos h)
  have IE2 := Lib.hid (fun R seen (y : BItem) (h : ¬ (y.cert < 0 ∨ (P.length : Int) ≤ y.cert)) (h2 : y.cert.toNat ∈ seen) => show IE R seen y = 11 from by rw [hIE]; unfold itemE; rw [CL]; simp only; rw [if_neg h, if_pos h2])
  have IE3 := Lib.hid (fun R seen (y : BItem) (c : Nat) q (hc : y.cert = (c : Int)) (hq : P[c]? = some q) (h2 : c ∉ seen) => show IE R seen y = if certB q.1 = true ∧ y.paths.length = q.1.fr.length then (if pathsB R q.1 y.paths = true then 0 else 13) else 2 from by
    have hcl := (List.getElem?_eq_some_iff.1 hq).1
    rw [hIE]
    unfold itemE
    rw [CL]
    simp only
    rw [hc, Int.toNat_natCast, if_neg (by omega), if_neg h2, certsOf_get hq])
  have RI := Lib.hid (fun (y : BItem) (c : Nat) q (hc : y.cert = (c : Int)) (hq : P[c]? = some q) => show rulesI (certsOf P) y = crules q.1 from by
    unfold rulesI
    rw [hc, Int.toNat_natCast, certsOf_get hq])
  have CQS := Lib.hid (fun (c : Nat) q (hq : P[c]? = some q) => hcs q.1 (List.mem_of_getElem? (certsOf_get hq)))
  have CT := Lib.hid (fun k (y : BItem) (hy : p.items[k]? = some y) => certsTo_succ hy)
  have CT0 := Lib.hid (show certsTo p.items 0 = [] from rfl)
  have CM := Lib.hid (fun (k c : Nat) (h : ∀ (j : Nat) y, j < k → p.items[j]? = some y → 0 ≤ y.cert) => mem_certsTo (c := c) h)
  obtain ⟨SE, hSE⟩ : ∃ SE : Nat → List Nat, SE = certsTo p.items := ⟨_, rfl⟩
  rw [← hSE] at CT0
  simp only [← hSE] at CT CM
  clear CE CL hCI hIE hR hnil hp hx kb ka hSE OE0 hcs hfit h47 h48 hsz1
  go_enter Tryz.func18, Tryz.ntmps18
  go_wp2_with (at_builtin; refine wpList_pushS rfl (.tmp 21) (.tmp 22) 22 rfl 69 2 32 Tryz.underlying22 Tryz.elemRule (w.heap.size + 1) _ 0 [] rfl OE.out ra R.length rc (ruleCells R) rfl ?a1 ?a2 ?a3 ?a4 ?a5 ?a6 ?a7 ?nx1)
  case a1 => exact ruleCells_length R
  case a2 => exact SRC.out
  case a3 => exact fun e => by first | exact HNIL.out e | exact ⟨List.length_eq_zero_iff.1 (HNIL.out e).1, (HNIL.out e).2⟩
  case a4 => exact ruleCells_one R
  case a5 => omega
  case a6 => unfold maxLen; omega
  intro v3 w3 o3 g3
  obtain ⟨a3, c3, rfl⟩ := own_shape o3
  try rw [Nat.zero_add, List.nil_append] at o3
  try rw [Nat.zero_add]
  have kg3 := Chg.of_grown g3
  have RC0 := Lib.hid (show RChk w w3 (.slice ia p.items.length ic) (.slice sa p.steps.length sc) (.slice a3 R.length c3) R from
    ⟨kg3.obj (fun e => by simp [Value.ownBlock] at e) OB.out, o3, KB.out.next kg3 (fun i hi e => by
      have e2 : w.heap.size + 1 = i := by simpa [Value.ownBlock] using e
      omega)⟩)
  have q0 := cell_of (o := 0) RC0.out.box rfl
  clear o3 g3 kg3 OE SRC KB OB hz HNIL
  go_wp2_with fail
  clear q0
  go_loopw [11, 12] (fun rv iv wr => ∃ (k : Nat) (Rk : List BRul), k ≤ p.items.length ∧ Rk.length ≤ R.length + k * 1000 ∧ iv = .int .i64 k ∧ Hid (RChk w wr (.slice ia p.items.length ic) (.slice sa p.steps.length sc) rv Rk ∧ Fit47 Rk ∧ CI R [] 0 = CI Rk (SE k) k ∧ ∀ (j : Nat) y, j < k → p.items[j]? = some y → 0 ≤ y.cert)) (fun _ iv _ => p.items.length - (intOf iv).toNat)
  case atStart => exact ⟨0, R, by omega, by omega, rfl, Lib.hid ⟨RC0.out, H47.out, by rw [CT0.out], fun j y hj => by omega⟩⟩
  case round =>
    obtain ⟨k, Rk, hk, hRk, rfl, HI⟩ := hrel
    obtain ⟨a4, c4, er⟩ := own_shape HI.out.1.row
    subst er
    have CN := Lib.hid HI.out.1
    have RS := Lib.hid HI.out.2.1
    have EQ := Lib.hid HI.out.2.2.1
    have POS := Lib.hid HI.out.2.2.2
    have q0 := cell_of (o := 0) CN.out.box rfl
    clear HI RC0
    by_cases hlt : k < p.items.length
    · as_aux_lemma =>
      have g1 : decide ((k : Int) < (p.items.length : Int)) = true := decide_eq_true (by omega)
      have g1' : decide (k < p.items.length) = true := decide_eq_true hlt
      obtain ⟨y, hy⟩ : ∃ y, p.items[k]? = some y := ⟨_, List.getElem?_eq_getElem hlt⟩
      have ERR := Lib.hid (fun (e : Int) (h : IE Rk (SE k) y = e) (he : e ≠ 0) => show res = e from by
        rw [CE2.out, EQ.out, STOP.out Rk (SE k) k y e hy h he]
        simp only
        rw [if_neg he])
      have NEXT := Lib.hid (fun (h : IE Rk (SE k) y = 0) => show CI R [] 0 = CI (Rk ++ rulesI (certsOf P) y) (SE (k + 1)) (k + 1) from by rw [EQ.out, GO.out Rk (SE k) k y hy h, CT.out k y hy])
      have J1 := Lib.hid (IE1.out Rk (SE k) y)
      have J2 := Lib.hid (IE2.out Rk (SE k) y)
      have J3 := Lib.hid (IE3.out Rk (SE k) y)
      have RIY := Lib.hid (RI.out y)
      have CMK := Lib.hid (fun c => CM.out k c POS.out)
      have POSN := Lib.hid (fun (q : 0 ≤ y.cert) => show ∀ (j : Nat) z, j < k + 1 → p.items[j]? = some z → 0 ≤ z.cert from fun j z hj hz => by
        rcases Nat.lt_or_ge j k with h | h
        · exact POS.out j z h hz
        · obtain rfl : j = k := by omega
          rw [hy] at hz
          cases hz
          exact q)
      have HFY := Lib.hid (HFI.out.items y (List.mem_of_getElem? hy)).2
      obtain ⟨_, _, e1, _, hcl⟩ := HP.out.items
      cases e1
      have HCL := Lib.hid hcl
      obtain ⟨lb, lo, pv, rfl, _, j0, j1, hpa⟩ := hcl k _ hy
      have ITC := Lib.hid (fun (W : World) (kW : Chg (fun _ => False) w W) (j : Nat) (z : BItem) (hz : p.items[j]? = some z) => show W.cell? ⟨lb, lo + j * 2, none⟩ = some (.int .i64 z.cert) from by
        obtain ⟨_, _, _, e9, _, h9, _⟩ := HCL.out j z hz
        cases e9
        exact cell_chg kW (fun e => e) h9)
      have hpl := hpa.len
      obtain ⟨pa, pc, rfl⟩ := hpa.shape
      have i0 := cell_chg CN.out.ch (fun e => e) j0
      have i1 := cell_chg CN.out.ch (fun e => e) j1
      have HPA := Lib.hid hpa
      obtain ⟨cert, paths⟩ := y
      simp only at i0 i1 hpl HPA J1 J2 J3 RIY NEXT POSN HFY
      have kx := chg_alloc (fun _ => False) wr (.cells #[.int .i64 cert, .slice pa paths.length pc] 43)
      have OX := Lib.hid (obj_alloc_new wr (.cells #[.int .i64 cert, .slice pa paths.length pc] 43))
      have CX := Lib.hid (CN.out.chg kx)
      clear hcl hy hpa j0 j1 kx CN EQ STOP GO END IE1 IE2 IE3 RI CE2 CM CT HCL
      go_upto_region 6 with fail
      clear i0 i1 q0
      generalize wr.alloc (.cells #[.int .i64 cert, .slice pa paths.length pc] 43) = wx at *
      generalize wr.heap.size = bx at *
      have x0 := cell_of (o := 0) OX.out rfl
      by_cases hc0 : cert < 0
      · have g2 : decide (cert < 0) = true := decide_eq_true hc0
        have E := Lib.hid (ERR.out 1 (J1.out (.inl hc0)) (by decide))
        clear hc0
        go_wp2
        go_ret
        exact ⟨by rw [E.out]; rfl, CX.out.ch⟩
      have g2 : decide (cert < 0) = false := decide_eq_false hc0
      obtain ⟨c, rfl⟩ : ∃ c : Nat, cert = (c : Int) := ⟨cert.toNat, by omega⟩
      by_cases hc1 : c < P.length
      rotate_left
      · have g3 : decide ((P.length : Int) ≤ (c : Int)) = true := decide_eq_true (by omega)
        have g4 : decide (P.length ≤ c) = true := decide_eq_true (by omega)
        have E := Lib.hid (ERR.out 1 (J1.out (.inr (by omega))) (by decide))
        go_wp2
        go_ret
        exact ⟨by rw [E.out]; rfl, CX.out.ch⟩
      have g3 : decide ((P.length : Int) ≤ (c : Int)) = false := decide_eq_false (by omega)
      have g4 : decide (P.length ≤ c) = false := decide_eq_false (by omega)
      obtain ⟨pq, hpq⟩ : ∃ pq, P[c]? = some pq := ⟨_, List.getElem?_eq_getElem hc1⟩
      have hnot : ¬ ((c : Int) < 0 ∨ (P.length : Int) ≤ (c : Int)) := by omega
      have POSC := Lib.hid (POSN.out (by omega))
      clear hc0
      go_wp2_with fail
      clear x0
      go_loopw [14] (fun jv wr => ∃ j : Nat, j ≤ k ∧ jv = .int .i64 j ∧ Hid (Chg (fun _ => False) wx wr ∧ ∀ (i : Nat) z, i < j → p.items[i]? = some z → z.cert ≠ (c : Int))) (fun jv _ => k - (intOf jv).toNat)
      case atStart => exact ⟨0, by omega, rfl, Lib.hid ⟨Chg.refl _ _, fun i z hi => by omega⟩⟩
      case round =>
        obtain ⟨m, hm, rfl, HM⟩ := hrel
        have KM := Lib.hid HM.out.1
        have NE := Lib.hid HM.out.2
        have CXM := Lib.hid (CX.out.chg KM.out)
        have OXM := Lib.hid (KM.out.obj (fun e => e) OX.out)
        clear HM
        by_cases hml : m < k
        · as_aux_lemma =>
          have g5 : decide ((m : Int) < (k : Int)) = true := decide_eq_true (by omega)
          have g5' : decide (m < k) = true := decide_eq_true hml
          have hmn : (m : Int) < (p.items.length : Int) := by omega
          obtain ⟨z, hz⟩ : ∃ z, p.items[m]? = some z := ⟨_, List.getElem?_eq_getElem (by omega)⟩
          have z0 := ITC.out wr CXM.out.ch m z hz
          have q0 := cell_of (o := 0) CXM.out.box rfl
          have x0 := cell_of (o := 0) OXM.out rfl
          by_cases hzc : z.cert = (c : Int)
          · have g6 : (z.cert == (c : Int)) = true := by rw [hzc]; simp
            have E := Lib.hid (ERR.out 11 (J2.out hnot (by rw [Int.toNat_natCast]; exact (CMK.out c).2 ⟨m, z, hml, hz, hzc⟩)) (by decide))
            have KD := Lib.hid (fun n => CXM.out.ch.drewN n)
            obtain ⟨zc, hzc2⟩ : ∃ zc, zc = z.cert := ⟨_, rfl⟩
            rw [← hzc2] at z0 g6
            clear hzc hzc2 hz hnot hpq NE ITC
            go_wp2_with fail
            go_quiet (fail)
            rename_i nq
            go_wp2
            go_ret
            exact ⟨by rw [E.out]; rfl, KD.out nq⟩
          · have g6 : (z.cert == (c : Int)) = false := beq_eq_false_iff_ne.2 hzc
            have NE2 := Lib.hid (show ∀ (i : Nat) z, i < m + 1 → p.items[i]? = some z → z.cert ≠ (c : Int) from fun i y hi hy => by
              rcases Nat.lt_or_ge i m with h | h
              · exact NE.out i y h hy
              · obtain rfl : i = m := by omega
                rw [hz] at hy
                cases hy
                exact hzc)
            have KD := Lib.hid (fun n => KM.out.drewN n)
            obtain ⟨zc, hzc2⟩ : ∃ zc, zc = z.cert := ⟨_, rfl⟩
            rw [← hzc2] at z0 g6
            clear hzc hzc2 hz hnot hpq NE ITC
            go_wp2_with fail
            go_quiet (fail)
            rename_i nq
            have KDN := Lib.hid (KD.out nq)
            go_wp2
            go_roundw
            case rel => exact ⟨m + 1, by omega, by go_num, Lib.hid ⟨KDN.out, NE2.out⟩⟩
            case measure => simp [intOf]; omega
        · as_aux_lemma =>
          obtain rfl : m = k := by omega
          have g5 : decide ((m : Int) < (m : Int)) = false := decide_eq_false (by omega)
          have g5' : decide (m < m) = false := decide_eq_false (by omega)
          have hse : c ∉ SE m := fun q => by
            obtain ⟨i, z, hi, hz, e⟩ := (CMK.out c).1 q
            exact NE.out i z hi hz e
          have I3 := Lib.hid (J3.out c pq rfl hpq hse)
          have RIC := Lib.hid (RIY.out c pq rfl hpq)
          have CQ := Lib.hid (CQS.out c pq hpq)
          obtain ⟨_, _, e1, _, hcv⟩ := HV.out
          cases e1
          obtain ⟨cg, co, ca, ccp, rfl, hcg, ecv, cw0, cw1, cw2, cw3, cw4, cw5, cw6, hca⟩ := hcv c pq hpq
          have CA := Lib.hid hca
          obtain ⟨⟨ck, sg, sp, fr, cf, ct, cn⟩, cv⟩ := pq
          simp only at cw0 cw1 cw2 cw3 cw4 cw5 cw6 CA I3 RIC ecv CQ
          have m0 := cell_chg CXM.out.ch (fun e => e) cw0
          have m1 := cell_chg CXM.out.ch (fun e => e) cw1
          have m2 := cell_chg CXM.out.ch (fun e => e) cw2
          have m3 := cell_chg CXM.out.ch (fun e => e) cw3
          have m4 := cell_chg CXM.out.ch (fun e => e) cw4
          have m5 := cell_chg CXM.out.ch (fun e => e) cw5
          have m6 := cell_chg CXM.out.ch (fun e => e) cw6
          have x0 := cell_of (o := 0) OXM.out rfl
          have kc := chg_alloc (fun _ => False) wr (.cells #[.int .i64 ck, .int .u16 (sg : Int), .string sp, .slice ca fr.length ccp, .int .i64 cf, .int .i64 ct, .int .i64 cn] 60)
          have OC := Lib.hid (obj_alloc_new wr (.cells #[.int .i64 ck, .int .u16 (sg : Int), .string sp, .slice ca fr.length ccp, .int .i64 cf, .int .i64 ct, .int .i64 cn] 60))
          have CC := Lib.hid (CXM.out.chg kc)
          have OXC := Lib.hid (kc.obj (fun e => e) OXM.out)
          have CK := rcheck_any (wr.alloc (.cells #[.int .i64 ck, .int .u16 (sg : Int), .string sp, .slice ca fr.length ccp, .int .i64 cf, .int .i64 ct, .int .i64 cn] 60)) ⟨ck, sg, sp, fr, cf, ct, cn⟩ ca ccp (· < w.heap.size) (CA.out.chg CC.out.ch (fun _ _ e => e)) CQ.out.1 CQ.out.2
          unfold certV CheckRes at CK
          have CK := Lib.hid CK
          clear hcv hca ecv cw0 cw1 cw2 cw3 cw4 cw5 cw6 kc CX OX CXM OXM hse hnot hpq J1 J2 J3 RIY NE
          go_wp2_with fail
          clear x0 m0 m1 m2 m3 m4 m5 m6
          generalize wr.alloc (.cells #[.int .i64 ck, .int .u16 (sg : Int), .string sp, .slice ca fr.length ccp, .int .i64 cf, .int .i64 ct, .int .i64 cn] 60) = wc at *
          generalize wr.heap.size = bc at *
          have r0 := cell_of (o := 0) OC.out rfl
          have r1 := cell_of (o := 1) OC.out rfl
          have r2 := cell_of (o := 2) OC.out rfl
          have r3 := cell_of (o := 3) OC.out rfl
          have r4 := cell_of (o := 4) OC.out rfl
          have r5 := cell_of (o := 5) OC.out rfl
          have r6 := cell_of (o := 6) OC.out rfl
          go_wp2_with fail
          clear r0 r1 r2 r3 r4 r5 r6
          (with_reducible refine (CK.out).mono ?_)
          rintro e w5 ⟨⟨z, rfl, hz⟩, k5⟩
          have C5 := Lib.hid (CC.out.chg k5)
          have OC5 := Lib.hid (k5.obj (fun e => e) OC.out)
          have OX5 := Lib.hid (k5.obj (fun e => e) OXC.out)
          have ZZ := Lib.hid hz
          clear CK k5 CC OC OXC hz
          have r3 := cell_of (o := 3) OC5.out rfl
          have y1 := cell_of (o := 1) OX5.out rfl
          cases hcb : certB ⟨ck, sg, sp, fr, cf, ct, cn⟩ with
          | false =>
            have g6 : (z != 0) = true := by
              rw [bne_iff_ne]
              intro e
              have := ZZ.out.1 e
              rw [hcb] at this
              cases this
            have E := Lib.hid (ERR.out 2 (by rw [I3.out, if_neg (by rw [hcb]; intro h; cases h.1)]) (by decide))
            clear hcb
            go_wp2
            go_ret
            exact ⟨by rw [E.out]; rfl, C5.out.ch⟩
          | true =>
          obtain rfl : z = 0 := ZZ.out.2 hcb
          have HCB := Lib.hid hcb
          clear hcb ZZ
          have hfr : fr.length ≤ 16 := by
            obtain ⟨_, q, _⟩ := of_decide_eq_true (certB_may HCB.out).fr
            rwa [lists_len] at q
          by_cases hlen : paths.length = fr.length
          rotate_left
          · have g6 : ((paths.length : Int) != (fr.length : Int)) = true := by rw [bne_iff_ne]; omega
            have g7 : (paths.length != fr.length) = true := by rw [bne_iff_ne]; exact hlen
            have E := Lib.hid (ERR.out 2 (by rw [I3.out, if_neg (fun h => hlen h.2)]) (by decide))
            clear hlen
            go_wp2
            go_ret
            exact ⟨by rw [E.out]; rfl, C5.out.ch⟩
          have g6 : ((paths.length : Int) != (fr.length : Int)) = false := by rw [bne_eq_false_iff_eq]; omega
          have g7 : (paths.length != fr.length) = false := by rw [bne_eq_false_iff_eq]; exact hlen
          have I4 := Lib.hid (show IE Rk (SE m) ⟨(c : Int), paths⟩ = if pathsB Rk ⟨ck, sg, sp, fr, cf, ct, cn⟩ paths = true then 0 else 13 from by rw [I3.out, if_pos ⟨HCB.out, hlen⟩])
          have HLEN := Lib.hid hlen
          have hl1 : paths.length ≤ fr.length := by omega
          have hl2 : fr.length ≤ paths.length := by omega
          clear hlen I3
          go_wp2_with fail
          clear r3 y1
          go_loopw [16] (fun jv wr => ∃ j : Nat, j ≤ fr.length ∧ jv = .int .i64 j ∧ Hid (Chg (fun _ => False) w5 wr ∧ ∀ (i : Nat) xx l, i < j → fr[i]? = some xx → paths[i]? = some l → leadsB Rk xx (atomW sg) l = true)) (fun jv _ => fr.length - (intOf jv).toNat)
          case atStart => exact ⟨0, by omega, rfl, Lib.hid ⟨Chg.refl _ _, fun i xx l hi => by omega⟩⟩
          case round =>
            obtain ⟨j, hj, rfl, HJ⟩ := hrel
            have KJ := Lib.hid HJ.out.1
            have ALL := Lib.hid HJ.out.2
            have CJ := Lib.hid (C5.out.chg KJ.out)
            have OCJ := Lib.hid (KJ.out.obj (fun e => e) OC5.out)
            have OXJ := Lib.hid (KJ.out.obj (fun e => e) OX5.out)
            have r3 := cell_of (o := 3) OCJ.out rfl
            clear HJ
            by_cases hjl : j < fr.length
            · as_aux_lemma =>
              have g8 : decide ((j : Int) < (fr.length : Int)) = true := decide_eq_true (by omega)
              have g8' : decide (j < fr.length) = true := decide_eq_true hjl
              have hjp : (j : Int) < (paths.length : Int) := by omega
              have hjn : (j : Int) < (fr.length : Int) := by omega
              obtain ⟨l, hl⟩ : ∃ l, paths[j]? = some l := ⟨_, List.getElem?_eq_getElem (by omega)⟩
              obtain ⟨xx, hxx⟩ : ∃ xx, fr[j]? = some xx := ⟨_, List.getElem?_eq_getElem hjl⟩
              obtain ⟨_, _, e1, _, hcl⟩ := HPA.out
              cases e1
              obtain ⟨lb2, lo2, pv2, rfl, _, q0', hst⟩ := hcl j l hl
              obtain ⟨qa, qc, rfl⟩ := hst.shape
              obtain ⟨_, _, e2, _, hwl⟩ := CA.out.set.at_
              cases e2
              obtain ⟨wg, wo, rfl, _, u0', hxs⟩ := hwl j xx hxx
              have SJ := Lib.hid (fun (W : World) (kW : Chg (fun _ => False) wr W) => show W.cell? ⟨bc, 3, none⟩ = some (.slice (some ⟨wg, wo, none⟩) fr.length ccp) ∧ W.cell? ⟨wg, wo + j, none⟩ = some (.string xx) ∧ W.cell? ⟨bx, 1, none⟩ = some (.slice (some ⟨lb2, lo2, none⟩) paths.length pc) ∧ W.cell? ⟨lb2, lo2 + j, none⟩ = some (.slice qa l.length qc) from
                ⟨cell_of (o := 3) (kW.obj (fun e => e) OCJ.out) rfl, cell_chg (CJ.out.ch.trans kW) (fun e => e) u0', cell_of (o := 1) (kW.obj (fun e => e) OXJ.out) rfl, cell_chg (CJ.out.ch.trans kW) (fun e => e) q0'⟩)
              have LD := Lib.hid (fun (W : World) (kW : Chg (fun _ => False) wr W) => rwalk_leads W (.slice a4 Rk.length c4) (.slice qa l.length qc) Rk l xx (atomW sg) (rulesAt_own (CJ.out.chg kW).row (fun r hr => ⟨Nat.le_trans (RS.out r hr).1 H48.out, Nat.le_trans (RS.out r hr).2 H48.out⟩)) RS.out ((hst.chg (CJ.out.ch.trans kW) (fun _ _ e => e)).at_.up13 (fun k hk => Nat.lt_of_lt_of_le hk (CJ.out.ch.trans kW).size)) (HFY.out l (List.mem_of_getElem? hl)) (CQ.out.2 xx (List.mem_of_getElem? hxx)))
              have BAD := Lib.hid (fun (q : ¬ leadsB Rk xx (atomW sg) l = true) => ERR.out 13 (by rw [I4.out, if_neg (by rw [pathsB_no hxx hl (Bool.eq_false_iff.2 q)]; decide)]) (by decide))
              have GOOD := Lib.hid (fun (q : leadsB Rk xx (atomW sg) l = true) => show ∀ (i : Nat) yy m, i < j + 1 → fr[i]? = some yy → paths[i]? = some m → leadsB Rk yy (atomW sg) m = true from fun i yy m hi hyy hm => by
                rcases Nat.lt_or_ge i j with z | z
                · exact ALL.out i yy m z hyy hm
                · obtain rfl : i = j := by omega
                  rw [hxx] at hyy; rw [hl] at hm; cases hyy; cases hm; exact q)
              have OFD := Lib.hid (fun (W : World) => of_sgD W sg CA.out.sg)
              generalize leadsB Rk xx (atomW sg) l = bq at LD BAD GOOD
              clear hcl hl hst q0' hwl hxx u0' hxs ALL r3
              obtain ⟨s0, s1, s2, s3⟩ := SJ.out wr (Chg.refl _ _)
              go_wp2_with fail
              clear s0 s1 s2 s3
              obtain ⟨s0, s1, s2, s3⟩ := SJ.out _ (chg_drew _ wr)
              refine wp_region_plan (N := 128) [.rd [0, 1, 2, 3, 4, 5, 6, 7, 8, 9, 10], .ef 11, .rd [12, 13, 14, 15, 16]] (fun W => W.cell? ⟨bc, 3, none⟩ = some (.slice (some ⟨wg, wo, none⟩) fr.length ccp) ∧ W.cell? ⟨wg, wo + j, none⟩ = some (.string xx) ∧ W.cell? ⟨bx, 1, none⟩ = some (.slice (some ⟨lb2, lo2, none⟩) paths.length pc) ∧ W.cell? ⟨lb2, lo2 + j, none⟩ = some (.slice qa l.length qc)) (by kernel_rfl) (by kernel_rfl) (by kernel_rfl) (by kernel_rfl) (Nat.le_of_ble_eq_true rfl) ⟨s0, s1, s2, s3⟩ ?_
              refine plan_rd (A := ?A1) ?h1 ?h2
              case h1 =>
                rintro w' ⟨z0, z1, z2, z3⟩ K hK
                simp only [opsAt, List.filterMap_cons, List.filterMap_nil, List.getElem?_toArray, List.getElem?_cons_succ, List.getElem?_cons_zero]
                repeat still_step
                refine wpStill_nil ?_
                exact hK
              have KD := Lib.hid (chg_drew (fun _ => False) wr)
              have LDD := Lib.hid (LD.out _ KD.out)
              clear s0 s1 s2 s3 LD
              generalize wr.drew = wd at *
              refine plan_ef rfl ?_
              go_wp2_with fail
              (with_reducible refine (LDD.out).mono ?_)
              rintro e w8 ⟨s, kk, rfl, hiff, k8⟩
              have KD8 := Lib.hid (KD.out.trans k8)
              have HIFF := Lib.hid hiff
              clear LDD k8 KD hiff
              go_wp2_with fail
              refine ⟨SJ.out _ KD8.out, ?_⟩
              refine plan_rd (A := ?A2) ?h3 ?h4
              case h3 =>
                rintro w' z0 K hK
                clear z0
                simp only [opsAt, List.filterMap_cons, List.filterMap_nil, List.getElem?_toArray, List.getElem?_cons_succ, List.getElem?_cons_zero]
                repeat still_step
                refine wpStill_nil ?_
                exact hK
              refine plan_nil ?_
              have K8 := Lib.hid (KJ.out.trans KD8.out)
              have CH8 := Lib.hid (CJ.out.ch.trans KD8.out)
              have OC8 := Lib.hid (KD8.out.obj (fun e => e) OCJ.out)
              have c81 := cell_of (o := 1) OC8.out rfl
              by_cases hkk : kk = 0
              rotate_left
              · have g9 : (kk != 0) = true := by rw [bne_iff_ne]; exact hkk
                have E := Lib.hid (BAD.out (fun q => hkk (HIFF.out.1 q).1))
                clear hkk
                go_wp2
                go_ret
                exact ⟨by rw [E.out]; rfl, CH8.out⟩
              · subst hkk
                have OF := Lib.hid (OFD.out w8)
                go_wp2_with fail
                clear c81
                (with_reducible refine (OF.out).mono ?_)
                rintro e w9 ⟨rfl, k9⟩
                have K10 := Lib.hid (K8.out.trans k9)
                have CH10 := Lib.hid (CH8.out.trans k9)
                clear k9 OF
                by_cases hs : s = atomW sg
                · have E := Lib.hid (GOOD.out (HIFF.out.2 ⟨by first | trivial | rfl, hs⟩))
                  have n1 : (s.toList == (atomW sg).toList) = true := by rw [str_eq]; exact decide_eq_true hs
                  have n2 : (s.toList != (atomW sg).toList) = false := by rw [bne, n1]; rfl
                  clear hs
                  go_wp2
                  go_roundw
                  case rel => exact ⟨j + 1, by omega, by go_num, Lib.hid ⟨K10.out, E.out⟩⟩
                  case measure => simp [intOf]; omega
                · have E := Lib.hid (BAD.out (fun q => hs (HIFF.out.1 q).2))
                  have n1 : (s.toList == (atomW sg).toList) = false := by rw [str_eq]; exact decide_eq_false hs
                  have n2 : (s.toList != (atomW sg).toList) = true := by rw [bne, n1]; rfl
                  clear hs
                  go_wp2
                  go_ret
                  exact ⟨by rw [E.out]; rfl, CH10.out⟩
            · as_aux_lemma =>
              obtain rfl : j = fr.length := by omega
              have g8 : decide ((fr.length : Int) < (fr.length : Int)) = false := decide_eq_false (by omega)
              have g8' : decide (fr.length < fr.length) = false := decide_eq_false (by omega)
              have OK := Lib.hid (NEXT.out (by
                rw [I4.out, if_pos]
                exact pathsB_to (fun i xx l hxx hl => ALL.out i xx l (List.getElem?_eq_some_iff.1 hxx).1 hxx hl) HLEN.out))
              have CR := rrules_any wr ⟨ck, sg, sp, fr, cf, ct, cn⟩ ca ccp (· < w.heap.size) (CA.out.chg CJ.out.ch (fun _ _ e => e)) (by simp only; omega)
              unfold certV at CR
              have CR := Lib.hid CR
              have CSZ := Lib.hid (show Fit47 (crules ⟨ck, sg, sp, fr, cf, ct, cn⟩) from fun r hr => by
                unfold crules at hr
                obtain ⟨f, hf, rfl⟩ := List.mem_map.1 hr
                exact ⟨CQ.out.2 f hf, CQ.out.1⟩)
              have CRL := crules_length ⟨ck, sg, sp, fr, cf, ct, cn⟩
              simp only at CRL
              have hcrl : (crules ⟨ck, sg, sp, fr, cf, ct, cn⟩).length ≤ 1000 := by omega
              obtain ⟨M, hM⟩ : ∃ M, M = crules (⟨ck, sg, sp, fr, cf, ct, cn⟩ : BCert) := ⟨_, rfl⟩
              rw [← hM] at CR CSZ RIC hcrl
              clear CRL hM ALL
              have r0 := cell_of (o := 0) OCJ.out rfl
              have r1 := cell_of (o := 1) OCJ.out rfl
              have r2 := cell_of (o := 2) OCJ.out rfl
              have r4 := cell_of (o := 4) OCJ.out rfl
              have r5 := cell_of (o := 5) OCJ.out rfl
              have r6 := cell_of (o := 6) OCJ.out rfl
              go_wp2_with fail
              clear r0 r1 r2 r3 r4 r5 r6
              (with_reducible refine (CR.out).mono ?_)
              rintro e w8 ⟨v8, rfl, o8, k8⟩
              obtain ⟨a8, c8, rfl⟩ := own_shape o8
              have C8 := Lib.hid (CJ.out.chg k8)
              have O8 := Lib.hid o8
              have SRC := Lib.hid (rules_src (rulesAt_own o8 (fun r hr => ⟨Nat.le_trans (CSZ.out r hr).1 H48.out, Nat.le_trans (CSZ.out r hr).2 H48.out⟩)))
              clear CR k8 o8 CJ
              have hb8 : w.heap.size + 1 ≤ w8.heap.size := lt_of_obj C8.out.box
              have hkb := Nat.mul_le_mul_right 1000 hk
              go_wp2_with (at_builtin; refine wpList_pushS rfl (.tmp 109) (.tmp 111) 22 rfl 69 2 32 Tryz.underlying22 Tryz.elemRule (w.heap.size + 1) (.slice a4 Rk.length c4) Rk.length (ruleCells Rk) rfl C8.out.row a8 M.length c8 (ruleCells M) rfl ?b1 ?b2 ?b3 ?b4 ?b5 ?b6 ?b7 ?nx2)
              case b1 => exact ruleCells_length M
              case b2 => exact SRC.out
              case b3 =>
                intro e
                subst e
                exact own_nil O8.out
              case b4 => exact ruleCells_one M
              case b5 => omega
              case b6 => unfold maxLen; omega
              case b7 => exact hb8
              intro v9 w9 o9 g9
              obtain ⟨a9, c9, rfl⟩ := own_shape o9
              have C9 := Lib.hid (C8.out.more g9 o9)
              clear o9 g9 C8 O8 SRC
              go_wp2
              go_roundw
              case rel =>
                exact ⟨m + 1, Rk ++ M, by omega, by rw [List.length_append]; omega, by go_num, Lib.hid ⟨C9.out, fun r hr => by
                  rcases List.mem_append.1 hr with q | q
                  · exact RS.out r q
                  · exact CSZ.out r q, by rw [OK.out, RIC.out], POSC.out⟩⟩
              case measure => simp [intOf]; omega
    · as_aux_lemma =>
      obtain rfl : k = p.items.length := by omega
      have g1 : decide ((p.items.length : Int) < (p.items.length : Int)) = false := decide_eq_false (by omega)
      have g1' : decide (p.items.length < p.items.length) = false := decide_eq_false (by omega)
      have E := Lib.hid (show res = if leadsB Rk x u p.steps = true then 0 else 13 from by rw [CE2.out, EQ.out, END.out]; rfl)
      have q1 := cell_of (o := 1) CN.out.box rfl
      have LD := Lib.hid (rwalk_leads wr (.slice a4 Rk.length c4) (.slice sa p.steps.length sc) Rk p.steps x u (rulesAt_own CN.out.row (fun r hr => ⟨Nat.le_trans (RS.out r hr).1 H48.out, Nat.le_trans (RS.out r hr).2 H48.out⟩)) RS.out ((HP.out.steps.chg CN.out.ch (fun _ _ e => e)).at_.up13 (fun k hk => Nat.lt_of_lt_of_le hk CN.out.ch.size)) HFI.out.steps HX.out)
      generalize leadsB Rk x u p.steps = bq at *
      go_wp2_with fail
      (with_reducible refine (LD.out).mono ?_)
      rintro e w5 ⟨s, kk, rfl, hiff, k5⟩
      have K5 := Lib.hid (CN.out.ch.trans k5)
      have HIFF := Lib.hid hiff
      clear LD k5 q1 hiff q0
      by_cases hkk : kk = 0
      rotate_left
      · have g9 : (kk != 0) = true := by rw [bne_iff_ne]; exact hkk
        have E2 := Lib.hid (show res = 13 from by rw [E.out, if_neg (fun q => hkk (HIFF.out.1 q).1)])
        clear hkk
        go_wp2
        go_ret
        exact ⟨by rw [E2.out]; rfl, K5.out⟩
      · subst hkk
        by_cases hs : s = u
        · have E2 := Lib.hid (show res = 0 from by rw [E.out, if_pos (HIFF.out.2 ⟨by first | trivial | rfl, hs⟩)])
          have n1 : (s.toList == u.toList) = true := by rw [str_eq]; exact decide_eq_true hs
          have n2 : (s.toList != u.toList) = false := by rw [bne, n1]; rfl
          clear hs
          go_wp2
          go_ret
          exact ⟨by rw [E2.out]; rfl, K5.out⟩
        · have E2 := Lib.hid (show res = 13 from by rw [E.out, if_neg (fun q => hs (HIFF.out.1 q).2)])
          have n1 : (s.toList == u.toList) = false := by rw [str_eq]; exact decide_eq_false hs
          have n2 : (s.toList != u.toList) = true := by rw [bne, n1]; rfl
          clear hs
          go_wp2
          go_ret
          exact ⟨by rw [E2.out]; rfl, K5.out⟩
end Go.Proofs.YtjifdfhibkipnaaGreat
