/-
  The reference's Check of proofs. AEnt: what else.
-/
import Derived.Test.YthdfplafihmejaaGreatZcMRefsZY
import Derived.Test.YthdfplafihmejaaGreatZcUPlainY
import Derived.Test.YthdfplafihmejaaGreatZcQRWalk
import Derived.Test.YthdfplafihmejaaGreatZcDCheckZ
import Derived.Test.YthdfplafihmejaaGreatZcVPlain2
import Derived.Test.YthdfplafihmejaaGreatZcAEnt
namespace Go.Proofs.YthdfplafihmejaaGreat
open Go.RowKit Go.Maps
theorem zgU {I : List zF} {k c : Nat} (h : ∀ (j : Nat) y, j < k -> I[j]? = some y -> 0 <= y.cert) : c ∈ xD I k ↔ ∃ (j : Nat) (y : zF), j < k ∧ I[j]? = some y ∧ y.cert = (c : Int) := by
  unfold xD;rw [List.mem_map];refine ⟨fun ⟨y, hy, e⟩ => ?_, fun ⟨j, y, hj, hy, e⟩ => ?_⟩
  · obtain ⟨j, hj⟩ := List.mem_iff_getElem?.1 hy
    rw [List.getElem?_take] at hj;split at hj
    · rename_i hjk
      have := h j y hjk hj;exact ⟨j, y, hjk, hj, by omega⟩
    · cases hj
  · exact ⟨y, List.mem_iff_getElem?.2 ⟨j, by rw [List.getElem?_take, if_pos hj]; exact hy⟩, by omega⟩
theorem zfU {I : List zF} {k : Nat} {x : zF} (h : I[k]? = some x) : xD I (k + 1) = xD I k ++ [x.cert.toNat] := by
  unfold xD;rw [List.take_add_one, h, List.map_append];rfl
structure zmA (w wr : World) (iv sv rv : Value) (R : List zA) : Prop where
  box : wr.heap[w.heap.size]? = some (.cells #[iv, sv] 83 (0, 0))
  row : wr.ownsRow (w.heap.size + 1) 66 2 rv R.length (zw R)
  ch : Chg (fun _ => False) w wr
theorem zmA.chg {w wr w' : World} {iv sv rv : Value} {R : List zA} (h : zmA w wr iv sv rv R) (k : Chg (fun _ => False) wr w') : zmA w w' iv sv rv R :=
  ⟨k.obj (fun e => e) h.box, zm h.row k (fun _ _ e => e), h.ch.trans k⟩
theorem zmA.more {w wr w' : World} {iv sv rv rv' : Value} {R M : List zA} (h : zmA w wr iv sv rv R) (hg : wr.grownBy w' rv.ownBlock) (ho : w'.ownsRow (w.heap.size + 1) 66 2 rv' (R.length + M.length) (zw R ++ zw M)) : zmA w w' iv sv rv' (R ++ M) := by
  have kg := Chg.of_grown hg;refine ⟨kg.obj (fun e => ?_) h.box, ?_, h.ch.next kg (fun i hi e => ?_)⟩
  · have := (h.row.lt _ e).1; omega
  · rw [List.length_append]
    unfold zw at ho ⊢;rw [List.flatMap_append];exact ho
  · have := (h.row.lt _ e).1; omega
set_option maxHeartbeats 16000000 in
set_option maxRecDepth 100000 in
theorem zfk (w : World) (ra : Option Addr) (R : List zA) (rc : Nat) (v iv sv : Value) (P : List (zn × Value)) (p : zS) (x u : ByteArray) (hR : zM w (.slice ra R.length rc) (· < w.heap.size) R) (hnil : ra = none -> R.length = 0 ∧ rc = 0) (hRl : R.length <= 1000000000) (hv : yb w v (· < w.heap.size) P) (hp : yg w iv sv (· < w.heap.size) p) (hI : p.items.length <= 1000) (hfit : YI p) (h47 : zf9 R) (hcs : ∀ c ∈ zj P, c.sp.size <= 140737488355328 ∧ zco c.fr) (hx : x.size <= 140737488355328) :
    Calls Tryz.prog 43 #[.slice ra R.length rc, v, .agg #[iv, sv], .string x, .string u] w fun e w' => e = .returned (.int .i64 (yM R (zj P) p x u)) ∧ Chg (fun _ => False) w w' := by
  have HV := zb hv;have HP := zb hp;have HX := zb hx;have HCS := zb hcs;have HFI := zb hfit;obtain ⟨la, lcap, rfl, hl0, _⟩ := hv;obtain ⟨ia, ic, rfl⟩ := hp.items.shape;obtain ⟨sa, sc, rfl⟩ := hp.steps.shape;have CL := zO P;have h48 : (140737488355328 : Nat) <= maxLen := by unfold maxLen; omega
  have H48 := zb h48;have kb := zh (fun _ => False) w (.cells #[.slice ia p.items.length ic, .slice sa p.steps.length sc] 83);have ka := zh (fun _ => False) (w.alloc (.cells #[.slice ia p.items.length ic, .slice sa p.steps.length sc] 83)) (.cells #[] 66);have OB := zb (ka.obj (fun e => e) (zf w (.cells #[.slice ia p.items.length ic, .slice sa p.steps.length sc] 83)));have KB := zb (kb.trans ka);have hsz1 : (w.alloc (.cells #[.slice ia p.items.length ic, .slice sa p.steps.length sc] 83)).heap.size = w.heap.size + 1 := World.size_alloc _ _;have OE0 := ZK (w.alloc (.cells #[.slice ia p.items.length ic, .slice sa p.steps.length sc] 83)) (w.heap.size + 1) 66 2 (by rw [hsz1]; exact Nat.le_refl _);rw [hsz1] at OE0;have OE := zb OE0;have SRC := zb (XT (hR.chg (kb.trans ka) (fun _ _ e => e)));have hz : w.heap.size + 1 <= ((w.alloc (.cells #[.slice ia p.items.length ic, .slice sa p.steps.length sc] 83)).alloc (.cells #[] 66)).heap.size := by rw [World.size_alloc, hsz1]; omega
  have HNIL := zb hnil;have H47 := zb h47;have CE := zb (show yM R (zj P) p x u = if (YO (zj P) R [] (p.items.drop 0)).1 = 0 then (if ZA (YO (zj P) R [] (p.items.drop 0)).2 x u p.steps = true then 0 else 13) else (YO (zj P) R [] (p.items.drop 0)).1 from rfl);generalize yM R (zj P) p x u = res at *;obtain ⟨CI, hCI⟩ : ∃ CI : List zA -> List Nat -> Nat -> Int × List zA, CI = fun R seen k => YO (zj P) R seen (p.items.drop k) := ⟨_, rfl⟩;have CE2 := zb (show res = if (CI R [] 0).1 = 0 then (if ZA (CI R [] 0).2 x u p.steps = true then 0 else 13) else (CI R [] 0).1 from by rw [hCI]; exact CE.out);obtain ⟨IE, hIE⟩ : ∃ IE : List zA -> List Nat -> zF -> Int, IE = fun R seen x => za0 R (zj P) seen x := ⟨_, rfl⟩;have STOP := zb (fun R seen k (y : zF) (e : Int) (hy : p.items[k]? = some y) (h : IE R seen y = e) (he : e ≠ 0) => show CI R seen k = (e, R) from by rw [hCI]; rw [hIE] at h; exact zdg hy h he);have GO := zb (fun R seen k (y : zF) (hy : p.items[k]? = some y) (h : IE R seen y = 0) => show CI R seen k = CI (R ++ xy (zj P) y) (seen ++ [y.cert.toNat]) (k + 1) from by rw [hCI]; rw [hIE] at h; exact zfT hy h);have END := zb (fun R seen => show CI R seen p.items.length = (0, R) from by rw [hCI]; simp only [List.drop_length]; rfl);have IE1 := zb (fun R seen (y : zF) (h : y.cert < 0 ∨ (P.length : Int) <= y.cert) => show IE R seen y = 1 from by rw [hIE]; unfold za0; rw [CL]; exact if_pos h);have IE2 := zb (fun R seen (y : zF) (h : ¬ (y.cert < 0 ∨ (P.length : Int) <= y.cert)) (h2 : y.cert.toNat ∈ seen) => show IE R seen y = 11 from by rw [hIE]; unfold za0; rw [CL]; simp only; rw [if_neg h, if_pos h2])
  have IE3 := zb (fun R seen (y : zF) (c : Nat) q (hc : y.cert = (c : Int)) (hq : P[c]? = some q) (h2 : c ∉ seen) => show IE R seen y = if ZG q.1 = true ∧ y.paths.length = q.1.fr.length then (if YT R q.1 y.paths = true then 0 else 13) else 2 from by
    have hcl := (List.getElem?_eq_some_iff.1 hq).1;rw [hIE];unfold za0;rw [CL];simp only;rw [hc, Int.toNat_natCast, if_neg (by omega), if_neg h2, Zq hq])
  have RI := zb (fun (y : zF) (c : Nat) q (hc : y.cert = (c : Int)) (hq : P[c]? = some q) => show xy (zj P) y = ZE q.1 from by
    unfold xy;rw [hc, Int.toNat_natCast, Zq hq])
  have CQS := zb (fun (c : Nat) q (hq : P[c]? = some q) => hcs q.1 (List.mem_of_getElem? (Zq hq)));have CT := zb (fun k (y : zF) (hy : p.items[k]? = some y) => zfU hy);have CT0 := zb (show xD p.items 0 = [] from rfl);have CM := zb (fun (k c : Nat) (h : ∀ (j : Nat) y, j < k -> p.items[j]? = some y -> 0 <= y.cert) => zgU (c := c) h);obtain ⟨SE, hSE⟩ : ∃ SE : Nat -> List Nat, SE = xD p.items := ⟨_, rfl⟩;rw [<- hSE] at CT0;simp only [<- hSE] at CT CM;clear CE CL hCI hIE hR hnil hp hx kb ka hSE OE0 hcs hfit h47 h48 hsz1;go_enter Tryz.func43, Tryz.ntmps43;go_wp2_with (at_builtin; refine zN rfl (.tmp 21) (.tmp 22) 22 rfl 66 2 32 Tryz.underlying22 Tryz.elemRule (w.heap.size + 1) _ 0 [] rfl OE.out ra R.length rc (zw R) rfl ?a1 ?a2 ?a3 ?a4 ?a5 ?a6 ?a7 ?nx1)
  case a1 => exact ZQ R
  case a2 => exact SRC.out
  case a3 => exact fun e => by first | exact HNIL.out e | exact ⟨List.length_eq_zero_iff.1 (HNIL.out e).1, (HNIL.out e).2⟩
  case a4 => exact Ye R
  case a5 => omega
  case a6 => unfold maxLen; omega
  intro v3 w3 o3 g3;obtain ⟨a3, c3, rfl⟩ := zl o3
  try rw [Nat.zero_add, List.nil_append] at o3
  try rw [Nat.zero_add]
  have kg3 := Chg.of_grown g3
  have RC0 := zb (show zmA w w3 (.slice ia p.items.length ic) (.slice sa p.steps.length sc) (.slice a3 R.length c3) R from
    ⟨kg3.obj (fun e => by simp [Value.ownBlock] at e) OB.out, o3, KB.out.next kg3 (fun i hi e => by
      have e2 : w.heap.size + 1 = i := by simpa [Value.ownBlock] using e
      omega)⟩)
  have q0 := ze (o := 0) RC0.out.box rfl;clear o3 g3 kg3 OE SRC KB OB hz HNIL;go_wp2_with fail;clear q0;go_loopw [11, 12] (fun rv iv wr => ∃ (k : Nat) (Rk : List zA), k <= p.items.length ∧ Rk.length <= R.length + k * 1000 ∧ iv = .int .i64 k ∧ Hid (zmA w wr (.slice ia p.items.length ic) (.slice sa p.steps.length sc) rv Rk ∧ zf9 Rk ∧ CI R [] 0 = CI Rk (SE k) k ∧ ∀ (j : Nat) y, j < k -> p.items[j]? = some y -> 0 <= y.cert)) (fun _ iv _ => p.items.length - (intOf iv).toNat)
  case atStart => exact ⟨0, R, by omega, by omega, rfl, zb ⟨RC0.out, H47.out, by rw [CT0.out], fun j y hj => by omega⟩⟩
  case round =>
    obtain ⟨k, Rk, hk, hRk, rfl, HI⟩ := hrel;obtain ⟨a4, c4, er⟩ := zl HI.out.1.row;subst er;have CN := zb HI.out.1;have RS := zb HI.out.2.1;have EQ := zb HI.out.2.2.1;have POS := zb HI.out.2.2.2;have q0 := ze (o := 0) CN.out.box rfl;clear HI RC0;by_cases hlt : k < p.items.length
    · as_aux_lemma =>
      have g1 : decide ((k : Int) < (p.items.length : Int)) = true := decide_eq_true (by omega);have g1' : decide (k < p.items.length) = true := decide_eq_true hlt;obtain ⟨y, hy⟩ : ∃ y, p.items[k]? = some y := ⟨_, List.getElem?_eq_getElem hlt⟩
      have ERR := zb (fun (e : Int) (h : IE Rk (SE k) y = e) (he : e ≠ 0) => show res = e from by
        rw [CE2.out, EQ.out, STOP.out Rk (SE k) k y e hy h he];simp only;rw [if_neg he])
      have NEXT := zb (fun (h : IE Rk (SE k) y = 0) => show CI R [] 0 = CI (Rk ++ xy (zj P) y) (SE (k + 1)) (k + 1) from by rw [EQ.out, GO.out Rk (SE k) k y hy h, CT.out k y hy]);have J1 := zb (IE1.out Rk (SE k) y);have J2 := zb (IE2.out Rk (SE k) y);have J3 := zb (IE3.out Rk (SE k) y);have RIY := zb (RI.out y);have CMK := zb (fun c => CM.out k c POS.out)
      have POSN := zb (fun (q : 0 <= y.cert) => show ∀ (j : Nat) z, j < k + 1 -> p.items[j]? = some z -> 0 <= z.cert from fun j z hj hz => by
        rcases Nat.lt_or_ge j k with h | h
        · exact POS.out j z h hz
        · obtain rfl : j = k := by omega
          rw [hy] at hz;cases hz;exact q)
      have HFY := zb (HFI.out.items y (List.mem_of_getElem? hy)).2;obtain ⟨_, _, e1, _, hcl⟩ := HP.out.items;cases e1;have HCL := zb hcl;obtain ⟨lb, lo, pv, rfl, _, j0, j1, hpa⟩ := hcl k _ hy
      have ITC := zb (fun (W : World) (kW : Chg (fun _ => False) w W) (j : Nat) (z : zF) (hz : p.items[j]? = some z) => show W.cell? ⟨lb, lo + j * 2, none⟩ = some (.int .i64 z.cert) from by
        obtain ⟨_, _, _, e9, _, h9, _⟩ := HCL.out j z hz;cases e9;exact zi kW (fun e => e) h9)
      have hpl := hpa.len;obtain ⟨pa, pc, rfl⟩ := hpa.shape;have i0 := zi CN.out.ch (fun e => e) j0;have i1 := zi CN.out.ch (fun e => e) j1;have HPA := zb hpa;obtain ⟨cert, paths⟩ := y;simp only at i0 i1 hpl HPA J1 J2 J3 RIY NEXT POSN HFY;have kx := zh (fun _ => False) wr (.cells #[.int .i64 cert, .slice pa paths.length pc] 98);have OX := zb (zf wr (.cells #[.int .i64 cert, .slice pa paths.length pc] 98));have CX := zb (CN.out.chg kx);clear hcl hy hpa j0 j1 kx CN EQ STOP GO END IE1 IE2 IE3 RI CE2 CM CT HCL;go_upto_region 6 with fail;clear i0 i1 q0;generalize wr.alloc (.cells #[.int .i64 cert, .slice pa paths.length pc] 98) = wx at *;generalize wr.heap.size = bx at *;have x0 := ze (o := 0) OX.out rfl;by_cases hc0 : cert < 0
      · have g2 : decide (cert < 0) = true := decide_eq_true hc0
        have E := zb (ERR.out 1 (J1.out (.inl hc0)) (by decide));clear hc0;go_wp2;go_ret;exact ⟨by rw [E.out]; rfl, CX.out.ch⟩
      have g2 : decide (cert < 0) = false := decide_eq_false hc0;obtain ⟨c, rfl⟩ : ∃ c : Nat, cert = (c : Int) := ⟨cert.toNat, by omega⟩;by_cases hc1 : c < P.length
      rotate_left
      · have g3 : decide ((P.length : Int) <= (c : Int)) = true := decide_eq_true (by omega)
        have g4 : decide (P.length <= c) = true := decide_eq_true (by omega);have E := zb (ERR.out 1 (J1.out (.inr (by omega))) (by decide));go_wp2;go_ret;exact ⟨by rw [E.out]; rfl, CX.out.ch⟩
      have g3 : decide ((P.length : Int) <= (c : Int)) = false := decide_eq_false (by omega);have g4 : decide (P.length <= c) = false := decide_eq_false (by omega);obtain ⟨pq, hpq⟩ : ∃ pq, P[c]? = some pq := ⟨_, List.getElem?_eq_getElem hc1⟩;have hnot : ¬ ((c : Int) < 0 ∨ (P.length : Int) <= (c : Int)) := by omega
      have POSC := zb (POSN.out (by omega));clear hc0;go_wp2_with fail;clear x0;go_loopw [14] (fun jv wr => ∃ j : Nat, j <= k ∧ jv = .int .i64 j ∧ Hid (Chg (fun _ => False) wx wr ∧ ∀ (i : Nat) z, i < j -> p.items[i]? = some z -> z.cert ≠ (c : Int))) (fun jv _ => k - (intOf jv).toNat)
      case atStart => exact ⟨0, by omega, rfl, zb ⟨Chg.refl _ _, fun i z hi => by omega⟩⟩
      case round =>
        obtain ⟨m, hm, rfl, HM⟩ := hrel;have KM := zb HM.out.1;have NE := zb HM.out.2;have CXM := zb (CX.out.chg KM.out);have OXM := zb (KM.out.obj (fun e => e) OX.out);clear HM;by_cases hml : m < k
        · as_aux_lemma =>
          have g5 : decide ((m : Int) < (k : Int)) = true := decide_eq_true (by omega);have g5' : decide (m < k) = true := decide_eq_true hml;have hmn : (m : Int) < (p.items.length : Int) := by omega
          obtain ⟨z, hz⟩ : ∃ z, p.items[m]? = some z := ⟨_, List.getElem?_eq_getElem (by omega)⟩;have z0 := ITC.out wr CXM.out.ch m z hz;have q0 := ze (o := 0) CXM.out.box rfl;have x0 := ze (o := 0) OXM.out rfl;by_cases hzc : z.cert = (c : Int)
          · have g6 : (z.cert == (c : Int)) = true := by rw [hzc]; simp
            have E := zb (ERR.out 11 (J2.out hnot (by rw [Int.toNat_natCast]; exact (CMK.out c).2 ⟨m, z, hml, hz, hzc⟩)) (by decide));have KD := zb (fun n => CXM.out.ch.drewN n);obtain ⟨zc, hzc2⟩ : ∃ zc, zc = z.cert := ⟨_, rfl⟩;rw [<- hzc2] at z0 g6;clear hzc hzc2 hz hnot hpq NE ITC;go_wp2_with fail;go_quiet (fail);rename_i nq;go_wp2;go_ret;exact ⟨by rw [E.out]; rfl, KD.out nq⟩
          · have g6 : (z.cert == (c : Int)) = false := beq_eq_false_iff_ne.2 hzc
            have NE2 := zb (show ∀ (i : Nat) z, i < m + 1 -> p.items[i]? = some z -> z.cert ≠ (c : Int) from fun i y hi hy => by
              rcases Nat.lt_or_ge i m with h | h
              · exact NE.out i y h hy
              · obtain rfl : i = m := by omega
                rw [hz] at hy;cases hy;exact hzc)
            have KD := zb (fun n => KM.out.drewN n);obtain ⟨zc, hzc2⟩ : ∃ zc, zc = z.cert := ⟨_, rfl⟩;rw [<- hzc2] at z0 g6;clear hzc hzc2 hz hnot hpq NE ITC;go_wp2_with fail;go_quiet (fail);rename_i nq;have KDN := zb (KD.out nq);go_wp2;go_roundw
            case rel => exact ⟨m + 1, by omega, by go_num, zb ⟨KDN.out, NE2.out⟩⟩
            case measure => simp [intOf]; omega
        · as_aux_lemma =>
          obtain rfl : m = k := by omega
          have g5 : decide ((m : Int) < (m : Int)) = false := decide_eq_false (by omega);have g5' : decide (m < m) = false := decide_eq_false (by omega)
          have hse : c ∉ SE m := fun q => by
            obtain ⟨i, z, hi, hz, e⟩ := (CMK.out c).1 q;exact NE.out i z hi hz e
          have I3 := zb (J3.out c pq rfl hpq hse);have RIC := zb (RIY.out c pq rfl hpq);have CQ := zb (CQS.out c pq hpq);obtain ⟨_, _, e1, _, hcv⟩ := HV.out;cases e1;obtain ⟨cg, co, ca, ccp, rfl, hcg, ecv, cw0, cw1, cw2, cw3, cw4, cw5, cw6, hca⟩ := hcv c pq hpq;have CA := zb hca;obtain ⟨⟨ck, sg, sp, fr, cf, ct, cn⟩, cv⟩ := pq;simp only at cw0 cw1 cw2 cw3 cw4 cw5 cw6 CA I3 RIC ecv CQ;have m0 := zi CXM.out.ch (fun e => e) cw0;have m1 := zi CXM.out.ch (fun e => e) cw1;have m2 := zi CXM.out.ch (fun e => e) cw2;have m3 := zi CXM.out.ch (fun e => e) cw3;have m4 := zi CXM.out.ch (fun e => e) cw4;have m5 := zi CXM.out.ch (fun e => e) cw5;have m6 := zi CXM.out.ch (fun e => e) cw6;have x0 := ze (o := 0) OXM.out rfl;have kc := zh (fun _ => False) wr (.cells #[.int .i64 ck, .int .u16 (sg : Int), .string sp, .slice ca fr.length ccp, .int .i64 cf, .int .i64 ct, .int .i64 cn] 64);have OC := zb (zf wr (.cells #[.int .i64 ck, .int .u16 (sg : Int), .string sp, .slice ca fr.length ccp, .int .i64 cf, .int .i64 ct, .int .i64 cn] 64));have CC := zb (CXM.out.chg kc);have OXC := zb (kc.obj (fun e => e) OXM.out);have CK := zdT (wr.alloc (.cells #[.int .i64 ck, .int .u16 (sg : Int), .string sp, .slice ca fr.length ccp, .int .i64 cf, .int .i64 ct, .int .i64 cn] 64)) ⟨ck, sg, sp, fr, cf, ct, cn⟩ ca ccp (· < w.heap.size) (CA.out.chg CC.out.ch (fun _ _ e => e)) CQ.out.1 CQ.out.2;unfold xf xQ at CK;have CK := zb CK;clear hcv hca ecv cw0 cw1 cw2 cw3 cw4 cw5 cw6 kc CX OX CXM OXM hse hnot hpq J1 J2 J3 RIY NE;go_wp2_with fail;clear x0 m0 m1 m2 m3 m4 m5 m6;generalize wr.alloc (.cells #[.int .i64 ck, .int .u16 (sg : Int), .string sp, .slice ca fr.length ccp, .int .i64 cf, .int .i64 ct, .int .i64 cn] 64) = wc at *;generalize wr.heap.size = bc at *;have r0 := ze (o := 0) OC.out rfl;have r1 := ze (o := 1) OC.out rfl;have r2 := ze (o := 2) OC.out rfl;have r3 := ze (o := 3) OC.out rfl;have r4 := ze (o := 4) OC.out rfl;have r5 := ze (o := 5) OC.out rfl;have r6 := ze (o := 6) OC.out rfl;go_wp2_with fail;clear r0 r1 r2 r3 r4 r5 r6;(with_reducible refine CK.out.mono ?_);rintro e w5 ⟨⟨z, rfl, hz⟩, k5⟩;have C5 := zb (CC.out.chg k5);have OC5 := zb (k5.obj (fun e => e) OC.out);have OX5 := zb (k5.obj (fun e => e) OXC.out);have ZZ := zb hz;clear CK k5 CC OC OXC hz;have r3 := ze (o := 3) OC5.out rfl;have y1 := ze (o := 1) OX5.out rfl;cases hcb : ZG ⟨ck, sg, sp, fr, cf, ct, cn⟩ with
          | false =>
            have g6 : (z != 0) = true := by
              rw [bne_iff_ne];intro e;have := ZZ.out.1 e;rw [hcb] at this;cases this
            have E := zb (ERR.out 2 (by rw [I3.out, if_neg (by rw [hcb]; intro h; cases h.1)]) (by decide));clear hcb;go_wp2;go_ret;exact ⟨by rw [E.out]; rfl, C5.out.ch⟩
          | true =>
          obtain rfl : z = 0 := ZZ.out.2 hcb;have HCB := zb hcb;clear hcb ZZ
          have hfr : fr.length <= 16 := by
            obtain ⟨_, q, _⟩ := of_decide_eq_true (zai HCB.out).fr;rwa [Zf] at q
          by_cases hlen : paths.length = fr.length
          rotate_left
          · have g6 : ((paths.length : Int) != (fr.length : Int)) = true := by rw [bne_iff_ne]; omega
            have g7 : (paths.length != fr.length) = true := by rw [bne_iff_ne]; exact hlen
            have E := zb (ERR.out 2 (by rw [I3.out, if_neg (fun h => hlen h.2)]) (by decide));clear hlen;go_wp2;go_ret;exact ⟨by rw [E.out]; rfl, C5.out.ch⟩
          have g6 : ((paths.length : Int) != (fr.length : Int)) = false := by rw [bne_eq_false_iff_eq]; omega
          have g7 : (paths.length != fr.length) = false := by rw [bne_eq_false_iff_eq]; exact hlen
          have I4 := zb (show IE Rk (SE m) ⟨(c : Int), paths⟩ = if YT Rk ⟨ck, sg, sp, fr, cf, ct, cn⟩ paths = true then 0 else 13 from by rw [I3.out, if_pos ⟨HCB.out, hlen⟩]);have HLEN := zb hlen;have hl1 : paths.length <= fr.length := by omega
          have hl2 : fr.length <= paths.length := by omega
          clear hlen I3;go_wp2_with fail;clear r3 y1;go_loopw [16] (fun jv wr => ∃ j : Nat, j <= fr.length ∧ jv = .int .i64 j ∧ Hid (Chg (fun _ => False) w5 wr ∧ ∀ (i : Nat) xx l, i < j -> fr[i]? = some xx -> paths[i]? = some l -> ZA Rk xx (Zw sg) l = true)) (fun jv _ => fr.length - (intOf jv).toNat)
          case atStart => exact ⟨0, by omega, rfl, zb ⟨Chg.refl _ _, fun i xx l hi => by omega⟩⟩
          case round =>
            obtain ⟨j, hj, rfl, HJ⟩ := hrel;have KJ := zb HJ.out.1;have ALL := zb HJ.out.2;have CJ := zb (C5.out.chg KJ.out);have OCJ := zb (KJ.out.obj (fun e => e) OC5.out);have OXJ := zb (KJ.out.obj (fun e => e) OX5.out);have r3 := ze (o := 3) OCJ.out rfl;clear HJ;by_cases hjl : j < fr.length
            · as_aux_lemma =>
              have g8 : decide ((j : Int) < (fr.length : Int)) = true := decide_eq_true (by omega);have g8' : decide (j < fr.length) = true := decide_eq_true hjl;have hjp : (j : Int) < (paths.length : Int) := by omega
              have hjn : (j : Int) < (fr.length : Int) := by omega
              obtain ⟨l, hl⟩ : ∃ l, paths[j]? = some l := ⟨_, List.getElem?_eq_getElem (by omega)⟩;obtain ⟨xx, hxx⟩ : ∃ xx, fr[j]? = some xx := ⟨_, List.getElem?_eq_getElem hjl⟩;obtain ⟨_, _, e1, _, hcl⟩ := HPA.out;cases e1;obtain ⟨lb2, lo2, pv2, rfl, _, q0', hst⟩ := hcl j l hl;obtain ⟨qa, qc, rfl⟩ := hst.shape;obtain ⟨_, _, e2, _, hwl⟩ := CA.out.set.at_;cases e2;obtain ⟨wg, wo, rfl, _, u0', hxs⟩ := hwl j xx hxx
              have SJ := zb (fun (W : World) (kW : Chg (fun _ => False) wr W) => show W.cell? ⟨bc, 3, none⟩ = some (.slice (some ⟨wg, wo, none⟩) fr.length ccp) ∧ W.cell? ⟨wg, wo + j, none⟩ = some (.string xx) ∧ W.cell? ⟨bx, 1, none⟩ = some (.slice (some ⟨lb2, lo2, none⟩) paths.length pc) ∧ W.cell? ⟨lb2, lo2 + j, none⟩ = some (.slice qa l.length qc) from
                ⟨ze (o := 3) (kW.obj (fun e => e) OCJ.out) rfl, zi (CJ.out.ch.trans kW) (fun e => e) u0', ze (o := 1) (kW.obj (fun e => e) OXJ.out) rfl, zi (CJ.out.ch.trans kW) (fun e => e) q0'⟩)
              have LD := zb (fun (W : World) (kW : Chg (fun _ => False) wr W) => zcQ W (.slice a4 Rk.length c4) (.slice qa l.length qc) Rk l xx (Zw sg) (ZY (CJ.out.chg kW).row (fun r hr => ⟨Nat.le_trans (RS.out r hr).1 H48.out, Nat.le_trans (RS.out r hr).2 H48.out⟩)) RS.out ((hst.chg (CJ.out.ch.trans kW) (fun _ _ e => e)).at_.up13 (fun k hk => Nat.lt_of_lt_of_le hk (CJ.out.ch.trans kW).size)) (HFY.out l (List.mem_of_getElem? hl)) (CQ.out.2 xx (List.mem_of_getElem? hxx)));have BAD := zb (fun (q : ¬ ZA Rk xx (Zw sg) l = true) => ERR.out 13 (by rw [I4.out, if_neg (by rw [zfn hxx hl (Bool.eq_false_iff.2 q)]; decide)]) (by decide))
              have GOOD := zb (fun (q : ZA Rk xx (Zw sg) l = true) => show ∀ (i : Nat) yy m, i < j + 1 -> fr[i]? = some yy -> paths[i]? = some m -> ZA Rk yy (Zw sg) m = true from fun i yy m hi hyy hm => by
                rcases Nat.lt_or_ge i j with z | z
                · exact ALL.out i yy m z hyy hm
                · obtain rfl : i = j := by omega
                  rw [hxx] at hyy; rw [hl] at hm; cases hyy; cases hm; exact q)
              have OFD := zb (fun (W : World) => znL W sg CA.out.sg);generalize ZA Rk xx (Zw sg) l = bq at LD BAD GOOD;clear hcl hl hst q0' hwl hxx u0' hxs ALL r3;obtain ⟨s0, s1, s2, s3⟩ := SJ.out wr (Chg.refl _ _);go_wp2_with fail;clear s0 s1 s2 s3;obtain ⟨s0, s1, s2, s3⟩ := SJ.out _ (zK _ wr);refine zB (N := 128) [.rd [0, 1, 2, 3, 4, 5, 6, 7, 8, 9, 10], .ef 11, .rd [12, 13, 14, 15, 16]] (fun W => W.cell? ⟨bc, 3, none⟩ = some (.slice (some ⟨wg, wo, none⟩) fr.length ccp) ∧ W.cell? ⟨wg, wo + j, none⟩ = some (.string xx) ∧ W.cell? ⟨bx, 1, none⟩ = some (.slice (some ⟨lb2, lo2, none⟩) paths.length pc) ∧ W.cell? ⟨lb2, lo2 + j, none⟩ = some (.slice qa l.length qc)) (by kernel_rfl) (by kernel_rfl) (by kernel_rfl) (by kernel_rfl) (Nat.le_of_ble_eq_true rfl) ⟨s0, s1, s2, s3⟩ ?_;refine zH (A := ?A1) ?h1 ?h2
              case h1 =>
                rintro w' ⟨z0, z1, z2, z3⟩ K hK;simp only [zT, List.filterMap_cons, List.filterMap_nil, List.getElem?_toArray, List.getElem?_cons_succ, List.getElem?_cons_zero]
                repeat still_step
                refine wpStill_nil ?_;exact hK
              have KD := zb (zK (fun _ => False) wr);have LDD := zb (LD.out _ KD.out);clear s0 s1 s2 s3 LD;generalize wr.drew = wd at *;refine zP rfl ?_;go_wp2_with fail;(with_reducible refine LDD.out.mono ?_);rintro e w8 ⟨s, kk, rfl, hiff, k8⟩;have KD8 := zb (KD.out.trans k8);have HIFF := zb hiff;clear LDD k8 KD hiff;go_wp2_with fail;refine ⟨SJ.out _ KD8.out, ?_⟩;refine zH (A := ?A2) ?h3 ?h4
              case h3 =>
                rintro w' z0 K hK;clear z0;simp only [zT, List.filterMap_cons, List.filterMap_nil, List.getElem?_toArray, List.getElem?_cons_succ, List.getElem?_cons_zero]
                repeat still_step
                refine wpStill_nil ?_;exact hK
              refine Zg ?_;have K8 := zb (KJ.out.trans KD8.out);have CH8 := zb (CJ.out.ch.trans KD8.out);have OC8 := zb (KD8.out.obj (fun e => e) OCJ.out);have c81 := ze (o := 1) OC8.out rfl;by_cases hkk : kk = 0
              rotate_left
              · have g9 : (kk != 0) = true := by rw [bne_iff_ne]; exact hkk
                have E := zb (BAD.out (fun q => hkk (HIFF.out.1 q).1));clear hkk;go_wp2;go_ret;exact ⟨by rw [E.out]; rfl, CH8.out⟩
              · subst hkk
                have OF := zb (OFD.out w8);go_wp2_with fail;clear c81;(with_reducible refine OF.out.mono ?_);rintro e w9 ⟨rfl, k9⟩;have K10 := zb (K8.out.trans k9);have CH10 := zb (CH8.out.trans k9);clear k9 OF;by_cases hs : s = Zw sg
                · have E := zb (GOOD.out (HIFF.out.2 ⟨by first | trivial | rfl, hs⟩))
                  have n1 : (s.toList == (Zw sg).toList) = true := by rw [YK]; exact decide_eq_true hs
                  have n2 : (s.toList != (Zw sg).toList) = false := by rw [bne, n1]; rfl
                  clear hs;go_wp2;go_roundw
                  case rel => exact ⟨j + 1, by omega, by go_num, zb ⟨K10.out, E.out⟩⟩
                  case measure => simp [intOf]; omega
                · have E := zb (BAD.out (fun q => hs (HIFF.out.1 q).2))
                  have n1 : (s.toList == (Zw sg).toList) = false := by rw [YK]; exact decide_eq_false hs
                  have n2 : (s.toList != (Zw sg).toList) = true := by rw [bne, n1]; rfl
                  clear hs;go_wp2;go_ret;exact ⟨by rw [E.out]; rfl, CH10.out⟩
            · as_aux_lemma =>
              obtain rfl : j = fr.length := by omega
              have g8 : decide ((fr.length : Int) < (fr.length : Int)) = false := decide_eq_false (by omega);have g8' : decide (fr.length < fr.length) = false := decide_eq_false (by omega)
              have OK := zb (NEXT.out (by
                rw [I4.out, if_pos];exact zfm (fun i xx l hxx hl => ALL.out i xx l (List.getElem?_eq_some_iff.1 hxx).1 hxx hl) HLEN.out))
              have CR := zit wr ⟨ck, sg, sp, fr, cf, ct, cn⟩ ca ccp (· < w.heap.size) (CA.out.chg CJ.out.ch (fun _ _ e => e)) (by simp only; omega);unfold xf at CR;have CR := zb CR
              have CSZ := zb (show zf9 (ZE ⟨ck, sg, sp, fr, cf, ct, cn⟩) from fun r hr => by
                unfold ZE at hr;obtain ⟨f, hf, rfl⟩ := List.mem_map.1 hr;exact ⟨CQ.out.2 f hf, CQ.out.1⟩)
              have CRL := Xv ⟨ck, sg, sp, fr, cf, ct, cn⟩;simp only at CRL;have hcrl : (ZE ⟨ck, sg, sp, fr, cf, ct, cn⟩).length <= 1000 := by omega
              obtain ⟨M, hM⟩ : ∃ M, M = ZE (⟨ck, sg, sp, fr, cf, ct, cn⟩ : zn) := ⟨_, rfl⟩;rw [<- hM] at CR CSZ RIC hcrl;clear CRL hM ALL;have r0 := ze (o := 0) OCJ.out rfl;have r1 := ze (o := 1) OCJ.out rfl;have r2 := ze (o := 2) OCJ.out rfl;have r4 := ze (o := 4) OCJ.out rfl;have r5 := ze (o := 5) OCJ.out rfl;have r6 := ze (o := 6) OCJ.out rfl;go_wp2_with fail;clear r0 r1 r2 r3 r4 r5 r6;(with_reducible refine CR.out.mono ?_);rintro e w8 ⟨v8, rfl, o8, k8⟩;obtain ⟨a8, c8, rfl⟩ := zl o8;have C8 := zb (CJ.out.chg k8);have O8 := zb o8;have SRC := zb (XT (ZY o8 (fun r hr => ⟨Nat.le_trans (CSZ.out r hr).1 H48.out, Nat.le_trans (CSZ.out r hr).2 H48.out⟩)));clear CR k8 o8 CJ;have hb8 : w.heap.size + 1 <= w8.heap.size := zq C8.out.box;have hkb := Nat.mul_le_mul_right 1000 hk;go_wp2_with (at_builtin; refine zN rfl (.tmp 109) (.tmp 111) 22 rfl 66 2 32 Tryz.underlying22 Tryz.elemRule (w.heap.size + 1) (.slice a4 Rk.length c4) Rk.length (zw Rk) rfl C8.out.row a8 M.length c8 (zw M) rfl ?b1 ?b2 ?b3 ?b4 ?b5 ?b6 ?b7 ?nx2)
              case b1 => exact ZQ M
              case b2 => exact SRC.out
              case b3 =>
                intro e;subst e;exact zgQ O8.out
              case b4 => exact Ye M
              case b5 => omega
              case b6 => unfold maxLen; omega
              case b7 => exact hb8
              intro v9 w9 o9 g9;obtain ⟨a9, c9, rfl⟩ := zl o9;have C9 := zb (C8.out.more g9 o9);clear o9 g9 C8 O8 SRC;go_wp2;go_roundw
              case rel =>
                exact ⟨m + 1, Rk ++ M, by omega, by rw [List.length_append]; omega, by go_num, zb ⟨C9.out, fun r hr => by
                  rcases List.mem_append.1 hr with q | q
                  · exact RS.out r q
                  · exact CSZ.out r q, by rw [OK.out, RIC.out], POSC.out⟩⟩
              case measure => simp [intOf]; omega
    · as_aux_lemma =>
      obtain rfl : k = p.items.length := by omega
      have g1 : decide ((p.items.length : Int) < (p.items.length : Int)) = false := decide_eq_false (by omega);have g1' : decide (p.items.length < p.items.length) = false := decide_eq_false (by omega);have E := zb (show res = if ZA Rk x u p.steps = true then 0 else 13 from by rw [CE2.out, EQ.out, END.out]; rfl);have q1 := ze (o := 1) CN.out.box rfl;have LD := zb (zcQ wr (.slice a4 Rk.length c4) (.slice sa p.steps.length sc) Rk p.steps x u (ZY CN.out.row (fun r hr => ⟨Nat.le_trans (RS.out r hr).1 H48.out, Nat.le_trans (RS.out r hr).2 H48.out⟩)) RS.out ((HP.out.steps.chg CN.out.ch (fun _ _ e => e)).at_.up13 (fun k hk => Nat.lt_of_lt_of_le hk CN.out.ch.size)) HFI.out.steps HX.out);generalize ZA Rk x u p.steps = bq at *;go_wp2_with fail;(with_reducible refine LD.out.mono ?_);rintro e w5 ⟨s, kk, rfl, hiff, k5⟩;have K5 := zb (CN.out.ch.trans k5);have HIFF := zb hiff;clear LD k5 q1 hiff q0;by_cases hkk : kk = 0
      rotate_left
      · have g9 : (kk != 0) = true := by rw [bne_iff_ne]; exact hkk
        have E2 := zb (show res = 13 from by rw [E.out, if_neg (fun q => hkk (HIFF.out.1 q).1)]);clear hkk;go_wp2;go_ret;exact ⟨by rw [E2.out]; rfl, K5.out⟩
      · subst hkk
        by_cases hs : s = u
        · have E2 := zb (show res = 0 from by rw [E.out, if_pos (HIFF.out.2 ⟨by first | trivial | rfl, hs⟩)])
          have n1 : (s.toList == u.toList) = true := by rw [YK]; exact decide_eq_true hs
          have n2 : (s.toList != u.toList) = false := by rw [bne, n1]; rfl
          clear hs;go_wp2;go_ret;exact ⟨by rw [E2.out]; rfl, K5.out⟩
        · have E2 := zb (show res = 13 from by rw [E.out, if_neg (fun q => hs (HIFF.out.1 q).2)])
          have n1 : (s.toList == u.toList) = false := by rw [YK]; exact decide_eq_false hs
          have n2 : (s.toList != u.toList) = true := by rw [bne, n1]; rfl
          clear hs;go_wp2;go_ret;exact ⟨by rw [E2.out]; rfl, K5.out⟩
theorem LOk.nil : LOk [] := ⟨List.nodup_nil, fun x h => (List.not_mem_nil h).elim, by simp⟩
theorem LOk.add {x : zW} {L : List zW} (h : LOk L) : LOk (zcn x L) := by
  unfold zcn;by_cases e : zan x L = 0
  · rw [if_pos e]
    obtain ⟨h1, h2, h3⟩ := zf4 e;refine ⟨?_, ?_, by rw [List.length_append, List.length_singleton]; omega⟩
    · rw [List.nodup_append]
      exact ⟨h.nodup, by simp, fun a ha b hb => by rw [List.mem_singleton] at hb; subst hb; rintro rfl; exact h2 ha⟩
    · intro y hy
      rcases List.mem_append.1 hy with q | q
      · exact h.may y q
      · rw [List.mem_singleton] at q; rw [q]; exact h1
  · rw [if_neg e]; exact h
end Go.Proofs.YthdfplafihmejaaGreat
