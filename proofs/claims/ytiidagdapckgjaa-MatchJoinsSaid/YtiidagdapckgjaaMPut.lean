/-
  Package match: put.
-/
import Derived.Test.YtiidagdapckgjaaMTrie3
import Derived.Carry
namespace Go.Proofs.Ytiidagdapckgjaa
open Go.RowKit Go.Maps

theorem Try.elemState : ElemInfo Try.prog 59 2 32 := elemInfo_of (z := .agg #[.map none, .slice none 0 0]) (by kernel_rfl) rfl (by decide)
theorem Try.elemInt : ElemInfo Try.prog 3 1 8 := elemInfo_of (z := .int .i64 0) (by kernel_rfl) rfl (by decide)
theorem Try.sizeInts : (Try.prog.info? 52).map (·.size) = some 1 := by kernel_rfl
theorem getIdx {ps : List (List Nat)} {q : List Nat} (h : q ∈ ps) : ps[ps.idxOf q]? = some q := by
  have hl : ps.idxOf q < ps.length := List.idxOf_lt_length_of_mem h
  rw [List.getElem?_eq_getElem hl, List.getElem_idxOf hl]
theorem putTo_mem_take {ps : List (List Nat)} (ht : Tree ps) (p : List Nat) : ∀ k, p.take k ∈ putTo ps p k
  | 0 => by simpa [putTo] using ht.mem_nil
  | k + 1 => (putTo_mem ps p (k + 1) _).2 (.inr ⟨k + 1, by omega, Nat.le_refl _, rfl⟩)
theorem putTo_length (ps : List (List Nat)) (p : List Nat) : ∀ k, (putTo ps p k).length ≤ ps.length + k
  | 0 => by simp [putTo]
  | k + 1 => by
    have := putTo_length ps p k
    rw [putTo]
    split
    · omega
    · simp; omega

set_option maxHeartbeats 4000000 in
set_option maxRecDepth 100000 in
theorem put_any (w : World) (base : Nat) (B : MB) (cs : List (Value × Value)) (ps : List (List Nat)) (wh : List Nat → List Nat) (which : Nat) (s : ByteArray) (h : MachAt w base B cs ps wh) (ht : Tree ps) (hs : s.size ≤ 400)
    (hps : ps.length ≤ 900000) (hfr : ∀ q, q ∉ ps → wh q = []) (hwl : (wh (atoms s.data.toList)).length ≤ 1000000) :
    Calls Try.prog 19 #[.pointer (some ⟨B.b, 0, none⟩), .int .i64 (which : Int), .string s] w fun e w' => e = .returned (.tuple #[]) ∧
      ∃ B' cs', B'.b = B.b ∧ B'.nw = B.nw ∧ MachAt w' base B' cs' (putP ps (atoms s.data.toList)) (fun q => if q = atoms s.data.toList then wh q ++ [which] else wh q) ∧ Chg (fun x => base ≤ x) w w' := by
  have hsl := size_list s
  have LEN := Lib.hid (wlen_any w s (by unfold maxLen; omega))
  have AT := Lib.hid (fun w k hk => wat_in w s k (by unfold maxLen; omega) hk)
  have hn2 : alen s.data.toList ≤ 200 := by unfold alen; omega
  have PL := Lib.hid (atoms_length s.data.toList)
  have TK := Lib.hid (fun k hk => atoms_take_succ s.data.toList (i := k) hk)
  have ALT := Lib.hid (fun k => atomAt_lt s.data.toList k)
  have HFR := Lib.hid hfr
  have HT := Lib.hid ht
  have H := Lib.hid h
  clear hs hsl hfr ht h
  unfold putP
  rw [PL.out]
  generalize hp : atoms s.data.toList = p at *
  generalize hn : alen s.data.toList = n at *
  clear hp hn
  have hnil := fun (w : World) (r : Option Nat) => run_eql_map_nil (P := Try.prog) w 57 44 3 r Try.underlying57
  have hmm := fun (w : World) => run_makeMap (P := Try.prog) 57 w
  go_enter Try.func19, Try.ntmps19
  go_wp2_with fail
  refine (LEN.out).mono ?_
  rintro e w' ⟨rfl, rfl⟩
  go_wp2
  go_loopw [6, 13] (fun av iv wr => ∃ k : Nat, k ≤ n ∧ iv = .int .i64 k ∧ av = .int .i64 (((putTo ps p k).idxOf (p.take k) : Nat) : Int) ∧ ∃ B2 cs2, B2.b = B.b ∧ B2.nw = B.nw ∧ MachAt wr base B2 cs2 (putTo ps p k) wh ∧ Chg (fun x => base ≤ x) w wr) (fun _ iv _ => n - (intOf iv).toNat)
  case atStart =>
    refine ⟨0, by omega, rfl, ?_, B, cs, rfl, rfl, H.out, Chg.refl _ _⟩
    have e0 : (putTo ps p 0).idxOf (p.take 0) = 0 := by
      rw [putTo, List.take_zero]
      cases ps with
      | nil => rfl
      | cons a r => have := HT.out.root; simp at this; subst this; simp
    rw [e0]; rfl
  case round =>
    obtain ⟨k, hk, rfl, rfl, B2, cs2, bb, bw, hm, hc⟩ := hrel
    have HM := Lib.hid hm
    have HC := Lib.hid hc
    have BB := Lib.hid bb
    have BW := Lib.hid bw
    clear hm hc bb bw
    by_cases hlt : k < n
    · have PM := Lib.hid (putTo_mem_take HT.out p k)
      have TP := Lib.hid (HT.out.putTo p k (by rw [PL.out]; omega))
      have hpl := putTo_length ps p k
      have PSU := Lib.hid (show putTo ps p (k + 1) = if p.take (k + 1) ∈ putTo ps p k then putTo ps p k else putTo ps p k ++ [p.take (k + 1)] from rfl)
      have FRK := Lib.hid (show ∀ q, q ∉ putTo ps p k → wh q = [] from fun q hq => HFR.out q (fun e => hq ((putTo_mem ps p k q).2 (.inl e))))
      have TK1 := Lib.hid (TK.out k hlt)
      have hak := ALT.out k
      generalize hak' : atomAt s.data.toList k = ak at *
      generalize putTo ps p k = P at *
      generalize p.take k = q at *
      have HP := Lib.hid (getIdx PM.out)
      obtain ⟨ix, hix⟩ : ∃ ix, P.idxOf q = ix := ⟨_, rfl⟩
      rw [hix] at HP ⊢
      have hixl : ix < P.length := by rw [← hix]; exact List.idxOf_lt_length_of_mem PM.out
      clear hix
      obtain ⟨c, hcc⟩ : ∃ c, cs2[ix]? = some c := ⟨_, List.getElem?_eq_getElem (by rw [HM.out.len]; exact hixl)⟩
      obtain ⟨mv, vv⟩ := c
      have HCC := Lib.hid hcc
      have LEN2 := Lib.hid HM.out.len
      have hcl : ix < cs2.length := by rw [HM.out.len]; exact hixl
      clear hcc
      go_wp2_with fail
      refine (AT.out wr k hlt).mono ?_
      rintro e w1 ⟨rfl, c1⟩
      rw [hak']
      have M1 := Lib.hid (HM.out.chg c1)
      have C1 := Lib.hid (HC.out.trans (c1.mono (fun _ _ e => e.elim)))
      clear c1 HM HC hak'
      have cb : w1.cell? ⟨B2.b, 0, none⟩ = some (.slice (some ⟨B2.g, 0, none⟩) cs2.length B2.cap) := cell_of M1.out.hb rfl
      have cm : w1.cell? ⟨B2.g, ix * 2, none⟩ = some mv := (M1.out.mcell HCC.out).1
      have fm := M1.out.frz (ix * 2)
      rw [BB.out] at cb
      have EM := Lib.hid (M1.out.em ix q _ HP.out HCC.out)
      by_cases hin : q ++ [ak] ∈ P
      · have he : edges P q ak = some (P.idxOf (q ++ [ak])) := by unfold edges; rw [if_pos hin]
        have PS1 := Lib.hid (show putTo ps p (k + 1) = P by rw [PSU.out, TK1.out, if_pos hin])
        have HE := Lib.hid he
        have hes : (edges P q ak).isSome = true := by rw [he]; rfl
        clear he
        go_wp2_with (at_lookup; refine wpList_edge rfl (.tmp 27) (.tmp 28) rfl base P.length mv (edges P q) rfl EM.out ak hak rfl ?_; intro c hc)
        have hc' := hc _ HE.out
        subst hc'
        clear hc
        go_roundw
        case rel => exact ⟨k + 1, by omega, by go_num, by rw [PS1.out, TK1.out], B2, cs2, BB.out, BW.out, by rw [PS1.out]; exact M1.out, C1.out⟩
        case measure => simp [intOf]; omega
      · have he : edges P q ak = none := by unfold edges; rw [if_neg hin]
        have PS1 := Lib.hid (show putTo ps p (k + 1) = P ++ [q ++ [ak]] by rw [PSU.out, TK1.out, if_neg hin])
        have HWH := Lib.hid (FRK.out _ hin)
        have HN := Lib.hid hin
        have hes : (edges P q ak).isSome = false := by rw [he]; rfl
        have em := EM.out
        clear he hin
        rcases em with ⟨rfl, hnone⟩ | ⟨bm, nn, D, rfl, hbm, ham, hnn, hsy⟩
        · have m2 := M1.out.newMap HP.out HCC.out
          have k2 : Chg (fun x => base ≤ x) w ((w1.alloc (.map #[] 0)).setCell ⟨B2.g, ix * 2, none⟩ (.map (some w1.heap.size))) := (C1.out.alloc _).trans ((chg_cell _ _ _ _).mono (fun x _ e => by have := M1.out.glt.1; omega))
          have am2 : AMap ((w1.alloc (.map #[] 0)).setCell ⟨B2.g, ix * 2, none⟩ (.map (some w1.heap.size))) w1.heap.size 0 (.map []) := World.ownsMap.setCell (World.ownsMap_made _ _ _ _) (by show w1.heap.size ≠ B2.g; have := M1.out.glt.2; omega) _
          have HNN := Lib.hid (show 0 ≤ P.length by omega)
          have SY := Lib.hid (show Says (.map []) (edges P q) from fun a ha => by rw [hnone a ha]; exact ⟨rfl, fun j hj => by cases hj⟩)
          have HK2 := Lib.hid (show (cs2.set ix (.map (some w1.heap.size), vv))[ix]? = some (.map (some w1.heap.size), vv) by rw [List.getElem?_set_self (by omega)])
          have sw := World.setCell_alloc_past (w := w1) (.map #[] 0) B2.g (ix * 2) (.map (some w1.heap.size)) M1.out.glt.2
          rw [sw] at m2 k2 am2
          have HL2 := Lib.hid (show (cs2.set ix (.map (some w1.heap.size), vv)).length = cs2.length from List.length_set ..)
          have MH := Lib.hid m2
          have CH := Lib.hid k2
          have AM := Lib.hid am2
          have hgb : B2.g ≠ B.b := fun e => M1.out.bg (by rw [BB.out, e])
          clear m2 k2 am2 hnone sw
          have hgb2 : B.b ≠ B2.g := fun e => hgb e.symm
          have gl : B2.g < w1.heap.size := M1.out.glt.2
          have bl : B.b < w1.heap.size := by have := lt_of_obj M1.out.hb; rw [BB.out] at this; exact this
          have ca : (w1.alloc (.map #[] 0)).cell? ⟨B2.g, ix * 2, none⟩ = some (.map none) := cell_chg (chg_alloc (fun _ => False) w1 _) (fun e => e) cm
          have fa : (w1.alloc (.map #[] 0)).frozen? ⟨B2.g, ix * 2, none⟩ = false := (M1.out.chg (chg_alloc (fun _ => False) w1 (.map #[] 0))).frz _
          go_wp2_with (first | (at_lookup; refine wpList_edge rfl (.tmp 27) (.tmp 28) rfl base P.length (.map none) (edges P q) rfl EM.out ak hak rfl ?_; intro c hc; clear hc) | (at_mapUpdate; refine wpList_mapUpdate_own _ rfl (.tmp 63) (.tmp 64) (.tmp 65) 57 rfl 44 3 Try.atomKeyed Try.underlying57 (plainElem Try.prog 3) w1.heap.size 0 (.map []) rfl AM.out ?e1 _ _ (akey ak) rfl rfl (akey_of ak hak) (.lit (.int .i64 ((P.length : Nat) : Int))) [] ?e2 ?nexta))
          case e1 => unfold maxLen; omega
          case e2 => rw [← LEN2.out]; exact plainElem_int Try.underlying3 (WalkArith.wf_i64 (by have := LEN2.out; omega))
          case nexta =>
            intro w3 am3 g3
            clear cb cm fm EM hgb hgb2
            have HL3 := Lib.hid HL2.out.symm
            generalize (w1.setCell ⟨B2.g, ix * 2, none⟩ (.map (some w1.heap.size))).alloc (.map #[] 0) = W2 at *
            generalize hcsn : cs2.set ix (.map (some w1.heap.size), vv) = csn at *
            generalize w1.heap.size = bm at *
            have AM3 := Lib.hid am3
            have G3 := Lib.hid g3
            have hbm2 := (MH.out.blt (cell_flat1 HK2.out) rfl)
            have hbmb : bm ≠ B2.b := fun e => (MH.out.ag _ _ (cell_flat1 HK2.out)).2 (by rw [← e]; rfl)
            have hbmg : bm ≠ B2.g := fun e => (MH.out.ag _ _ (cell_flat1 HK2.out)).1 (by rw [← e]; rfl)
            have cg3 : Chg (· = bm) W2 w3 := (Chg.of_grown g3).mono (fun x _ e => (Option.some.inj e).symm)
            have hb3 := cg3.obj (fun e => hbmb e.symm) MH.out.hb
            have hg3 := own_chg MH.out.hg cg3 (fun x hx e => hbmg (by simp [Value.ownBlock] at hx; omega))
            have HG3 := Lib.hid hg3
            have HB3 := Lib.hid hb3
            have C3 := Lib.hid (CH.out.trans (cg3.mono (T := fun x => base ≤ x) (fun x _ e => by have := hbm2.1; omega)))
            have hsz3 := C3.out.size
            have cb3 : w3.cell? ⟨B2.b, 0, none⟩ = some (.slice (some ⟨B2.g, 0, none⟩) csn.length B2.cap) := cell_of hb3 rfl
            rw [BB.out] at cb3
            clear am3 g3 cg3 hb3 hg3 
            go_wp2_with (at_builtin; refine wpList_pushF rfl (.tmp 70) (.tmp 72) 45 rfl 59 2 32 Try.underlying45 Try.elemState base _ _ _ rfl (HG3.out.alloc _) _ [.map none, .slice none 0 0] 59 (0, 0) rfl (obj_alloc_new _ _) rfl ?f1 ?f2 ?f3 ?f4 ?nextb)
            case f1 => intro u hu; simp at hu; rcases hu with rfl | rfl <;> rfl
            case f2 => have := MH.out.len; omega
            case f3 => unfold maxLen; have := MH.out.len; omega
            case f4 => have h1 := MH.out.bb; have h2 := lt_of_obj HB3.out; simp; omega
            case nextb =>
              intro v5 w5 o5 g5 s5
              obtain ⟨g', cap', rfl, m6⟩ := MH.out.addEdge TP.out HP.out HK2.out HN.out HWH.out AM.out HNN.out SY.out AM3.out G3.out o5 g5 s5
              have hb5 := (Chg.of_grown g5).obj (fun e => MH.out.bg (Option.some.inj e).symm) (obj_alloc (.cells #[.map none, .slice none 0 0] 59) HB3.out)
              have c5 : w5.cell? ⟨B2.b, 0, none⟩ = some (.slice (some ⟨B2.g, 0, none⟩) csn.length B2.cap) := cell_of hb5 rfl
              have f5 : w5.frozen? ⟨B2.b, 0, none⟩ = false := frozen_of hb5
              have k5 : Chg (fun x => base ≤ x) w w5 := C3.out.trans (((chg_alloc _ w3 (.cells #[.map none, .slice none 0 0] 59)).trans ((Chg.of_grown g5).mono (T := fun x => base ≤ x) (fun x _ e => by have h1 := MH.out.glt.1; have h2 : B2.g = x := Option.some.inj e; show base ≤ x; omega))))
              have K6 := Lib.hid (k5.trans ((chg_cell w5 B2.b 0 (.slice (some ⟨g', 0, none⟩) (csn.length + 1) cap')).mono (T := fun x => base ≤ x) (fun x _ e => by have := MH.out.bb; omega)))
              have M6 := Lib.hid m6
              rw [BB.out] at c5 f5 K6
              rw [BB.out] at M6
              have LN := Lib.hid MH.out.len
              have BNW := Lib.hid BW.out
              clear o5 g5 s5 m6 hb5 k5
              go_wp2
              go_roundw
              case rel =>
                refine ⟨k + 1, by omega, by go_num, ?_, ⟨B.b, g', cap', B2.nw⟩, csn ++ [((.map none : Value), (.slice none 0 0 : Value))], rfl, BNW.out, ?_, K6.out⟩
                · rw [PS1.out, TK1.out]
                  have := edges_new HN.out
                  unfold edges at this
                  rw [if_pos (by simp)] at this
                  rw [Option.some.inj this]
                  rw [← LEN2.out]
                · rw [PS1.out]; exact M6.out
              case measure => simp [intOf]; omega
        · have SY := Lib.hid (show Says D (edges P q) from hsy)
          have HNN := Lib.hid hnn
          have AM := Lib.hid ham
          have MH := M1
          have CH := C1
          have HK2 := HCC
          clear hsy ham C1 HCC hbm
          go_wp2_with (first | (at_lookup; refine wpList_edge rfl (.tmp 27) (.tmp 28) rfl base P.length (.map (some bm)) (edges P q) rfl EM.out ak hak rfl ?_; intro c hc; clear hc) | (at_mapUpdate; refine wpList_mapUpdate_own _ rfl (.tmp 63) (.tmp 64) (.tmp 65) 57 rfl 44 3 Try.atomKeyed Try.underlying57 (plainElem Try.prog 3) bm nn D rfl AM.out ?c1 _ _ (akey ak) rfl rfl (akey_of ak hak) (.lit (.int .i64 ((P.length : Nat) : Int))) [] ?c2 ?next))
          case c1 => unfold maxLen; omega
          case c2 => rw [← LEN2.out]; exact plainElem_int Try.underlying3 (WalkArith.wf_i64 (by have := LEN2.out; omega))
          case next =>
            intro w3 am3 g3
            have AM3 := Lib.hid am3
            have G3 := Lib.hid g3
            have hbm2 := (MH.out.blt (cell_flat1 HK2.out) rfl)
            have hbmb : bm ≠ B2.b := fun e => (MH.out.ag _ _ (cell_flat1 HK2.out)).2 (by rw [← e]; rfl)
            have hbmg : bm ≠ B2.g := fun e => (MH.out.ag _ _ (cell_flat1 HK2.out)).1 (by rw [← e]; rfl)
            have cg3 : Chg (· = bm) w1 w3 := (Chg.of_grown g3).mono (fun x _ e => (Option.some.inj e).symm)
            have hb3 := cg3.obj (fun e => hbmb e.symm) MH.out.hb
            have hg3 := own_chg MH.out.hg cg3 (fun x hx e => hbmg (by simp [Value.ownBlock] at hx; omega))
            have HG3 := Lib.hid hg3
            have HB3 := Lib.hid hb3
            have C3 := Lib.hid (CH.out.trans (cg3.mono (T := fun x => base ≤ x) (fun x _ e => by have := hbm2.1; omega)))
            have hsz3 := C3.out.size
            have cb3 : w3.cell? ⟨B2.b, 0, none⟩ = some (.slice (some ⟨B2.g, 0, none⟩) cs2.length B2.cap) := cell_of hb3 rfl
            rw [BB.out] at cb3
            clear am3 g3 cg3 hb3 hg3 
            go_wp2_with (at_builtin; refine wpList_pushF rfl (.tmp 70) (.tmp 72) 45 rfl 59 2 32 Try.underlying45 Try.elemState base _ _ _ rfl (HG3.out.alloc _) _ [.map none, .slice none 0 0] 59 (0, 0) rfl (obj_alloc_new _ _) rfl ?d1 ?d2 ?d3 ?d4 ?next2)
            case d1 => intro u hu; simp at hu; rcases hu with rfl | rfl <;> rfl
            case d2 => have := MH.out.len; omega
            case d3 => unfold maxLen; have := MH.out.len; omega
            case d4 => have h1 := MH.out.bb; have h2 := lt_of_obj HB3.out; simp; omega
            case next2 =>
              intro v5 w5 o5 g5 s5
              obtain ⟨g', cap', rfl, m6⟩ := MH.out.addEdge TP.out HP.out HK2.out HN.out HWH.out AM.out HNN.out SY.out AM3.out G3.out o5 g5 s5
              have hb5 := (Chg.of_grown g5).obj (fun e => MH.out.bg (Option.some.inj e).symm) (obj_alloc (.cells #[.map none, .slice none 0 0] 59) HB3.out)
              have c5 : w5.cell? ⟨B2.b, 0, none⟩ = some (.slice (some ⟨B2.g, 0, none⟩) cs2.length B2.cap) := cell_of hb5 rfl
              have f5 : w5.frozen? ⟨B2.b, 0, none⟩ = false := frozen_of hb5
              have k5 : Chg (fun x => base ≤ x) w w5 := C3.out.trans (((chg_alloc _ w3 (.cells #[.map none, .slice none 0 0] 59)).trans ((Chg.of_grown g5).mono (T := fun x => base ≤ x) (fun x _ e => by have h1 := MH.out.glt.1; have h2 : B2.g = x := Option.some.inj e; show base ≤ x; omega))))
              have K6 := Lib.hid (k5.trans ((chg_cell w5 B2.b 0 (.slice (some ⟨g', 0, none⟩) (cs2.length + 1) cap')).mono (T := fun x => base ≤ x) (fun x _ e => by have := MH.out.bb; omega)))
              have M6 := Lib.hid m6
              rw [BB.out] at c5 f5 K6
              rw [BB.out] at M6
              have LN := Lib.hid MH.out.len
              have BNW := Lib.hid BW.out
              clear o5 g5 s5 m6 hb5 k5
              go_wp2
              go_roundw
              case rel =>
                refine ⟨k + 1, by omega, by go_num, ?_, ⟨B.b, g', cap', B2.nw⟩, cs2 ++ [((.map none : Value), (.slice none 0 0 : Value))], rfl, BNW.out, ?_, K6.out⟩
                · rw [PS1.out, TK1.out]
                  have := edges_new HN.out
                  unfold edges at this
                  rw [if_pos (by simp)] at this
                  rw [Option.some.inj this]
                  rw [← LEN2.out]
                · rw [PS1.out]; exact M6.out
              case measure => simp [intOf]; omega
    · obtain rfl : k = n := by omega
      have TPE := Lib.hid (show p.take k = p from List.take_of_length_le (by rw [PL.out]; omega))
      have PM := Lib.hid (putTo_mem_take HT.out p k)
      have TP := Lib.hid (HT.out.putTo p k (by rw [PL.out]; omega))
      rw [TPE.out] at PM ⊢
      generalize hPP : putTo ps p k = P at *
      have HPP := Lib.hid hPP
      clear hPP
      have HP := Lib.hid (getIdx PM.out)
      obtain ⟨ix, hix⟩ : ∃ ix, P.idxOf p = ix := ⟨_, rfl⟩
      rw [hix] at HP ⊢
      have hixl : ix < P.length := by rw [← hix]; exact List.idxOf_lt_length_of_mem PM.out
      clear hix
      obtain ⟨c, hcc⟩ : ∃ c, cs2[ix]? = some c := ⟨_, List.getElem?_eq_getElem (by rw [HM.out.len]; exact hixl)⟩
      obtain ⟨mv, vv⟩ := c
      have HCC := Lib.hid hcc
      have hcl : ix < cs2.length := by rw [HM.out.len]; exact hixl
      clear hcc hlt hk
      have cb : wr.cell? ⟨B2.b, 0, none⟩ = some (.slice (some ⟨B2.g, 0, none⟩) cs2.length B2.cap) := cell_of HM.out.hb rfl
      have cw : wr.cell? ⟨B2.g, ix * 2 + 1, none⟩ = some vv := (HM.out.mcell HCC.out).2
      rw [BB.out] at cb
      have w1 : IntKind.i64.wrap (ix : Int) = (ix : Int) := by rw [IntKind.wrap_i64]; have := HM.out.gRow; obtain ⟨_, _, h1, h2, _⟩ := this; unfold maxLen at h2; omega
      have b1 : (0 : Int) ≤ (ix : Int) := by omega
      have b2 : (ix : Int) < (cs2.length : Int) := by omega
      go_wp2
      refine wp_region_planL (N := 96) [.rd [0, 1, 2, 3, 4, 5, 6, 7, 8, 9, 10, 11, 12, 13], .ef 14, .ef 15, .ef 16, .ef 17, .ef 18] 18 (fun w' => w'.cell? ⟨B.b, 0, none⟩ = some (.slice (some ⟨B2.g, 0, none⟩) cs2.length B2.cap) ∧ w'.cell? ⟨B2.g, ix * 2 + 1, none⟩ = some vv) (by kernel_rfl) (by kernel_rfl) (by kernel_rfl) (by kernel_rfl) (by kernel_rfl) (Nat.le_of_ble_eq_true rfl) ⟨cb, cw⟩ ?_
      refine planL_rd (A := ?A1) ?h1 ?h2
      case h1 =>
        intro w' hS K hK
        obtain ⟨s1, s2⟩ := hS
        simp only [opsAt, List.filterMap_cons, List.filterMap_nil, List.getElem?_toArray, List.getElem?_cons_succ, List.getElem?_cons_zero]
        repeat still_step
        refine wpStill_nil ?_
        exact hK
      have M1 := Lib.hid (HM.out.chg (chg_drew (fun _ => False) wr))
      have C1 := Lib.hid HC.out.drew
      clear cb cw w1 HM HC
      generalize wr.drew = wd at *
      have cb : wd.cell? ⟨B2.b, 0, none⟩ = some (.slice (some ⟨B2.g, 0, none⟩) cs2.length B2.cap) := cell_of M1.out.hb rfl
      rw [BB.out] at cb
      have cw : wd.cell? ⟨B2.g, ix * 2 + 1, none⟩ = some vv := (M1.out.mcell HCC.out).2
      have EW := Lib.hid (M1.out.ew ix p _ HP.out HCC.out)
      have hbz := lt_of_obj M1.out.hb
      have hbb := M1.out.bb
      refine planL_ef rfl ?_
      go_wp2_with fail
      have M2 := Lib.hid (M1.out.chg (chg_alloc (fun _ => False) wd (.cells #[.int .i64 (which : Int)] 3)))
      have cb2 : (wd.alloc (.cells #[.int .i64 (which : Int)] 3)).cell? ⟨B2.b, 0, none⟩ = some (.slice (some ⟨B2.g, 0, none⟩) cs2.length B2.cap) := cell_of M2.out.hb rfl
      rw [BB.out] at cb2
      first | refine ⟨.inr ⟨cb2, (M2.out.mcell HCC.out).2⟩, ?_⟩ | refine ⟨⟨cb2, (M2.out.mcell HCC.out).2⟩, ?_⟩
      refine planL_ef rfl ?_
      refine wpList_pushF rfl (.tmp 90) (.tmp 92) 52 rfl 3 1 8 Try.underlying52 Try.elemInt base _ _ _ rfl (EW.out.alloc _) _ [.int .i64 (which : Int)] 3 (0, 0) rfl (obj_alloc_new _ _) rfl (by intro u hu; simp at hu; subst hu; rfl) (by omega) (by unfold maxLen; omega) (by simp; omega) ?_
      intro v' w5 o5 g5 s5
      have m6 := M2.out.addWord TP.out.nodup (k := ix) (which := which) HP.out HCC.out o5 g5 s5
      have k5 : Chg (fun x => base ≤ x) w w5 := (C1.out.alloc (.cells #[.int .i64 (which : Int)] 3)).trans ((Chg.of_grown g5).mono (T := fun x => base ≤ x) (fun x _ e => (EW.out.lt x e).1))
      obtain ⟨sa, sc, rfl⟩ := own_shape o5
      have hvg : ¬ (Value.ownBlock vv = some B2.g) := fun e => (M2.out.ag _ _ (cell_flat2 HCC.out)).1 (ownBlock_blockOf e)
      have hvb : ¬ (Value.ownBlock vv = some B2.b) := fun e => (M2.out.ag _ _ (cell_flat2 HCC.out)).2 (ownBlock_blockOf e)
      have cb5 : w5.cell? ⟨B2.b, 0, none⟩ = some (.slice (some ⟨B2.g, 0, none⟩) cs2.length B2.cap) := cell_of ((Chg.of_grown g5).obj hvb M2.out.hb) rfl
      rw [BB.out] at cb5
      have cw5 : w5.cell? ⟨B2.g, ix * 2 + 1, none⟩ = some vv := cell_chg (Chg.of_grown g5) hvg (M2.out.mcell HCC.out).2
      have fw5 : w5.frozen? ⟨B2.g, ix * 2 + 1, none⟩ = false := by
        obtain ⟨rest, hh, _⟩ := M2.out.gRow
        exact frozen_of ((Chg.of_grown g5).obj hvg hh)
      have M6 := Lib.hid m6
      have K6 := Lib.hid (k5.trans ((chg_cell w5 B2.g (ix * 2 + 1) (.slice sa ((wh p).length + 1) sc)).mono (T := fun x => base ≤ x) (fun x _ e => by have := M2.out.glt.1; show base ≤ x; omega)))
      clear o5 g5 s5 m6 k5 cb cw cb2
      go_wp2_with fail
      first | refine ⟨.inr ⟨cb5, cw5⟩, ?_⟩ | refine ⟨⟨cb5, cw5⟩, ?_⟩
      refine planL_ef rfl ?_
      go_wp2_with fail
      first | refine ⟨.inr ⟨cb5, cw5⟩, ?_⟩ | refine ⟨⟨cb5, cw5⟩, ?_⟩
      refine planL_ef rfl ?_
      go_wp2_with fail
      first | refine ⟨.inr ⟨cb5, cw5⟩, ?_⟩ | refine ⟨⟨cb5, cw5⟩, ?_⟩
      refine planL_ef rfl ?_
      refine wpList_store_one rfl 52 (.tmp 95) (.tmp 93) rfl B2.g (ix * 2 + 1) rfl (.slice sa ((wh p).length + 1) sc) rfl rfl rfl Try.sizeInts _ cw5 fw5 ?_
      intro w7 hw7
      rw [← hw7] at M6 K6
      clear hw7 cb5 cw5 fw5
      refine ⟨.inl rfl, planL_nil ?_⟩
      go_wp2
      go_end0
      exact ⟨rfl, B2, _, BB.out, BW.out, by rw [HPP.out]; exact M6.out, K6.out⟩
end Go.Proofs.Ytiidagdapckgjaa
