/-
  Layer 15: awake, walked.
-/
import Derived.Test.YtdgmjablkdemmaaGreatTMk
namespace Go.Proofs.YtdgmjablkdemmaaGreat
open Go.RowKit Go.Maps

theorem certAt_nil (w : World) : CertAt w (.slice none 0 0) (fun _ => False) zeroC := ⟨⟨⟨none, 0, rfl, by simp [zeroC], fun j x hj => by simp [zeroC] at hj⟩, fun n c e => by cases e; exact ⟨rfl, rfl⟩⟩, by decide, by decide⟩
set_option maxHeartbeats 8000000 in
set_option maxRecDepth 100000 in
theorem awake15_any (w : World) : Calls Tryz.prog 5 #[] w fun e w' => e = .returned (.bool true) ∧ Chg (fun _ => False) w w' := by
  have NW := new_ok w 2 (by decide) (by decide)
  rw [show ((2 : Nat) : Int) = 2 from rfl] at NW
  have NW := Lib.hid NW
  have NB := Lib.hid (fun w => new_bad w 0 (by omega))
  have eg : ∀ args w, (callFunc 37 args).run Tryz.prog w = .ok (.enter 37 args) w := enters_of Tryz.func37 (by kernel_rfl) rfl
  go_enter Tryz.func5, Tryz.ntmps5
  go_wp2_with fail
  (with_reducible refine (NW.out).mono ?_)
  rintro e w1 ⟨b, B0, rfl, h1, hB0, k1⟩
  have BB := Lib.hid hB0
  have S1 := Lib.hid h1
  have K1 := Lib.hid k1
  clear NW h1 k1 hB0
  go_wp2_with fail
  (with_reducible refine (NB.out _).mono ?_)
  rintro e w1' ⟨rfl, rfl⟩
  clear NB
  have M := Lib.hid (mk_any w1 0 5)
  go_wp2_with fail
  (with_reducible refine (M.out).mono ?_)
  rintro e w2 ⟨g, rfl, hc, hg1, hg2, k⟩
  have HG := Lib.hid (show ∀ j, (fun j => j = g) j → j < w2.heap.size ∧ ¬ B0 j from fun j hj => ⟨by simp only at hj; omega, fun e => by have := S1.out.lt e; simp only at hj; omega⟩)
  have PU := Lib.hid (sput_at w2 b B0 _ _ (ac 0 5) (some ⟨g, 0, none⟩) 1 1 (fun j => j = g) _ _ 0 0 rfl rfl rfl aput1 (S1.out.chg k (fun _ _ e => e)) hc HG.out (by decide) (by decide))
  have KX := Lib.hid (K1.out.trans k)
  clear M hc HG k hg2
  go_wp2_with fail
  (with_reducible refine (PU.out).mono ?_)
  rintro e w3 ⟨B3, rfl, h, k, hb⟩
  have S3 := Lib.hid h
  have K3 := Lib.hid (KX.out.next k (fun j hj e => by have := BB.out j e; omega))
  have hs3 : w.heap.size ≤ w2.heap.size := KX.out.size
  have BB3 := Lib.hid (show ∀ j, B3 j → w.heap.size ≤ j from fun j hj => by
    rcases hb j hj with q | q
    · exact BB.out j q
    · omega)
  have BB := BB3
  clear PU KX h k hb BB3 hg1
  have M := Lib.hid (mk_any w3 3 9)
  go_wp2_with fail
  (with_reducible refine (M.out).mono ?_)
  rintro e w4 ⟨g, rfl, hc, hg1, hg2, k⟩
  have HG := Lib.hid (show ∀ j, (fun j => j = g) j → j < w4.heap.size ∧ ¬ B3 j from fun j hj => ⟨by simp only at hj; omega, fun e => by have := S3.out.lt e; simp only at hj; omega⟩)
  have PU := Lib.hid (sput_at w4 b B3 _ _ (ac 3 9) (some ⟨g, 0, none⟩) 1 1 (fun j => j = g) _ _ 1 0 rfl rfl rfl aput2 (S3.out.chg k (fun _ _ e => e)) hc HG.out (by decide) (by decide))
  have KX := Lib.hid (K3.out.trans k)
  clear M hc HG k hg2
  go_wp2_with fail
  (with_reducible refine (PU.out).mono ?_)
  rintro e w5 ⟨B5, rfl, h, k, hb⟩
  have S5 := Lib.hid h
  have K5 := Lib.hid (KX.out.next k (fun j hj e => by have := BB.out j e; omega))
  have hs5 : w.heap.size ≤ w4.heap.size := KX.out.size
  have BB5 := Lib.hid (show ∀ j, B5 j → w.heap.size ≤ j from fun j hj => by
    rcases hb j hj with q | q
    · exact BB.out j q
    · omega)
  have BB := BB5
  clear PU KX h k hb BB5 hg1
  have M := Lib.hid (mk_any w5 0 5)
  go_wp2_with fail
  (with_reducible refine (M.out).mono ?_)
  rintro e w6 ⟨g, rfl, hc, hg1, hg2, k⟩
  have HG := Lib.hid (show ∀ j, (fun j => j = g) j → j < w6.heap.size ∧ ¬ B5 j from fun j hj => ⟨by simp only at hj; omega, fun e => by have := S5.out.lt e; simp only at hj; omega⟩)
  have PU := Lib.hid (sput_at w6 b B5 _ _ (ac 0 5) (some ⟨g, 0, none⟩) 1 1 (fun j => j = g) _ _ 0 0 rfl rfl rfl aput3 (S5.out.chg k (fun _ _ e => e)) hc HG.out (by decide) (by decide))
  have KX := Lib.hid (K5.out.trans k)
  clear M hc HG k hg2
  go_wp2_with fail
  (with_reducible refine (PU.out).mono ?_)
  rintro e w7 ⟨B7, rfl, h, k, hb⟩
  have S7 := Lib.hid h
  have K7 := Lib.hid (KX.out.next k (fun j hj e => by have := BB.out j e; omega))
  have hs7 : w.heap.size ≤ w6.heap.size := KX.out.size
  have BB7 := Lib.hid (show ∀ j, B7 j → w.heap.size ≤ j from fun j hj => by
    rcases hb j hj with q | q
    · exact BB.out j q
    · omega)
  have BB := BB7
  clear PU KX h k hb BB7 hg1
  have M := Lib.hid (mk_any w7 4 4)
  go_wp2_with fail
  (with_reducible refine (M.out).mono ?_)
  rintro e w8 ⟨g, rfl, hc, hg1, hg2, k⟩
  have HG := Lib.hid (show ∀ j, (fun j => j = g) j → j < w8.heap.size ∧ ¬ B7 j from fun j hj => ⟨by simp only at hj; omega, fun e => by have := S7.out.lt e; simp only at hj; omega⟩)
  have PU := Lib.hid (sput_at w8 b B7 _ _ (ac 4 4) (some ⟨g, 0, none⟩) 1 1 (fun j => j = g) _ _ 0 3 rfl rfl rfl aput4 (S7.out.chg k (fun _ _ e => e)) hc HG.out (by decide) (by decide))
  have KX := Lib.hid (K7.out.trans k)
  clear M hc HG k hg2
  go_wp2_with fail
  (with_reducible refine (PU.out).mono ?_)
  rintro e w9 ⟨B9, rfl, h, k, hb⟩
  have S9 := Lib.hid h
  have K9 := Lib.hid (KX.out.next k (fun j hj e => by have := BB.out j e; omega))
  have hs9 : w.heap.size ≤ w8.heap.size := KX.out.size
  have BB9 := Lib.hid (show ∀ j, B9 j → w.heap.size ≤ j from fun j hj => by
    rcases hb j hj with q | q
    · exact BB.out j q
    · omega)
  have BB := BB9
  clear PU KX h k hb BB9 hg1
  have PU := Lib.hid (sput_at w9 b B9 _ _ zeroC none 0 0 (fun _ => False) _ _ 0 2 rfl rfl rfl aput5 S9.out (certAt_nil _) (fun j hj => hj.elim) (by decide) (by decide))
  change Hid (Calls _ _ #[_, .agg #[.int .i64 0, .int .u16 0, .string ⟨#[]⟩, .slice none 0 0, .int .i64 0, .int .i64 0, .int .i64 0]] _ _) at PU
  go_wp2_with fail
  (with_reducible refine (PU.out).mono ?_)
  rintro e w10 ⟨B10, rfl, h, k, hb⟩
  have S10 := Lib.hid h
  have K10 := Lib.hid (K9.out.next k (fun j hj e => by have := BB.out j e; omega))
  have hs10 : w.heap.size ≤ w9.heap.size := K9.out.size
  have BB10 := Lib.hid (show ∀ j, B10 j → w.heap.size ≤ j from fun j hj => by
    rcases hb j hj with q | q
    · exact BB.out j q
    · omega)
  have BB := BB10
  clear PU h k hb BB10
  have NX := Lib.hid (next_any w10 b B10 as2 3 S10.out)
  go_wp2_with fail
  (with_reducible refine (NX.out).mono ?_)
  rintro e wa ⟨nn, is, rfl, hbest, ka⟩
  obtain ⟨rfl, rfl⟩ := anext hbest
  have SA := Lib.hid (S10.out.chg ka (fun _ _ e => e))
  have KA := Lib.hid (K10.out.trans ka)
  clear NX hbest ka
  have OF1 := Lib.hid (of_one wa 8193 8193 rfl (atomW 8193) (by decide) rfl)
  go_wp2_with fail
  (with_reducible refine (OF1.out).mono ?_)
  rintro e wb ⟨rfl, kb⟩
  have SB := Lib.hid (SA.out.chg kb (fun _ _ e => e))
  have KB := Lib.hid (KA.out.trans kb)
  have AB := about_any wb b B10 as2 (atomW 8193) SB.out (by decide +kernel)
  rw [aabout] at AB
  have AB := Lib.hid AB
  clear OF1 kb
  generalize atomW 8193 = xa at *
  go_wp2_with fail
  (with_reducible refine (AB.out).mono ?_)
  rintro e wc ⟨v, rfl, ho, kc⟩
  obtain ⟨a15, c15, rfl⟩ := own_shape ho
  have SC := Lib.hid (SB.out.chg kc (fun _ _ e => e))
  have KC := Lib.hid (KB.out.trans kc)
  clear AB ho kc
  have SW := sweep_any wc b B10 as2 6 SC.out (by decide) (by decide)
  rw [agone, asweep] at SW
  have SW := Lib.hid SW
  go_wp2_with fail
  (with_reducible refine (SW.out).mono ?_)
  rintro e wd ⟨v, BD, rfl, ho, hd, kd, hbd, hrd⟩
  obtain ⟨a16, c16, rfl⟩ := own_shape ho
  have SD := Lib.hid hd
  have KD := Lib.hid (KC.out.next kd (fun j hj e => by have := BB.out j e; omega))
  have O16 := Lib.hid ho
  clear SW ho hd kd hbd hrd
  have VA := valid_any wd b BD as3 6 SD.out
  rw [avalid] at VA
  have VA := Lib.hid VA
  go_wp2_with fail
  (with_reducible refine (VA.out).mono ?_)
  rintro e we ⟨v, rfl, ho, ke⟩
  obtain ⟨a17, c17, rfl⟩ := own_shape ho
  have SE := Lib.hid (SD.out.chg ke (fun _ _ e => e))
  have KE := Lib.hid (KD.out.trans ke)
  have O16 := Lib.hid (own_chg O16.out ke (fun _ _ e => e))
  have O17 := Lib.hid ho
  clear VA ho ke
  have CE := certs_any we b BD as3 6 SE.out (by decide)
  rw [avalid, acerts] at CE
  have CE := Lib.hid CE
  go_wp2_with fail
  (with_reducible refine (CE.out).mono ?_)
  rintro e wf ⟨v, xs, rfl, hcr, hxs, kf⟩
  obtain ⟨⟨c18, sv⟩, rfl⟩ : ∃ p, xs = [p] := by
    cases xs with
    | nil => simp at hxs
    | cons p r =>
      cases r with
      | nil => exact ⟨p, rfl⟩
      | cons q r => simp at hxs
  obtain rfl : c18 = ac 3 9 := by simpa using hxs
  obtain ⟨a18, cap18, rfl⟩ := own_shape hcr.row
  have SF := Lib.hid (SE.out.chg kf (fun _ _ e => e))
  have KF := Lib.hid (KE.out.trans kf)
  have O16 := Lib.hid (own_chg O16.out kf (fun _ _ e => e))
  have O17 := Lib.hid (own_chg O17.out kf (fun _ _ e => e))
  have O18 := Lib.hid hcr.row
  clear CE hcr hxs kf
  have GE := get_any wf b BD as3 0 SF.out (by decide) (by decide)
  rw [aget] at GE
  have GE := Lib.hid GE
  go_wp2_with fail
  (with_reducible refine (GE.out).mono ?_)
  rintro e wg ⟨(⟨_, _, q, _⟩ | ⟨_, rfl⟩), kg⟩
  · cases q
  have SG := Lib.hid (SF.out.chg kg (fun _ _ e => e))
  have KG := Lib.hid (KF.out.trans kg)
  obtain ⟨g16, rfl⟩ := own_some O16.out (by decide)
  obtain ⟨g17, rfl⟩ := own_some O17.out (by decide)
  obtain ⟨g18, rfl⟩ := own_some O18.out (by simp)
  have x0 : wg.cell? ⟨g16, 0, none⟩ = some (.int .i64 0) := by
    have := (own_chg O16.out kg (fun _ _ e => e)).cellAt (j := 0) (by decide)
    exact this
  have x1 : wg.cell? ⟨g17, 0, none⟩ = some (.int .i64 1) := by
    have := (own_chg O17.out kg (fun _ _ e => e)).cellAt (j := 0) (by decide)
    exact this
  have x2 : wg.cell? ⟨g18, 5, none⟩ = some (.int .i64 9) := by
    have := (own_chg O18.out kg (fun _ _ e => e)).cellAt (j := 5) (by simp)
    exact this
  have kz := chg_alloc (fun _ => False) wg (.cells #[.int .i64 0, .int .u16 0, .string ⟨#[]⟩, .slice none 0 0, .int .i64 0, .int .i64 0, .int .i64 0] 34)
  have y0 := cell_chg kz (fun e => e) x0
  have y1 := cell_chg kz (fun e => e) x1
  have y2 := cell_chg kz (fun e => e) x2
  have SZ := Lib.hid (SG.out.chg kz (fun _ _ e => e))
  have KZ := Lib.hid (KG.out.trans kz)
  have LE := Lib.hid (len_any _ b BD as3 SZ.out)
  have TU := Lib.hid (turn_any _ b BD as3 SZ.out)
  clear GE kg O16 O17 O18 x0 x1 x2 kz SG KG
  unfold certV zeroC
  simp only [show ((0 : Nat) : Int) = 0 from rfl]
  go_wp2_with fail
  (with_reducible refine (LE.out).mono ?_)
  rintro e wh ⟨rfl, rfl⟩
  go_wp2_with fail
  (with_reducible refine (TU.out).mono ?_)
  rintro e wi ⟨rfl, rfl⟩
  go_wp2
  go_ret
  exact ⟨rfl, KZ.out⟩
end Go.Proofs.YtdgmjablkdemmaaGreat
