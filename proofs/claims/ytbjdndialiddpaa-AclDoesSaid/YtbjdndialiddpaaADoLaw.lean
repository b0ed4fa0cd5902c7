/-
  AclDoes, walked.
-/
import Derived.Test.YtbjdndialiddpaaAEdLaw
import Derived.Test.YtbjdndialiddpaaAAnsLaw
import Derived.Deep.DeepCutAuto
import Derived.Deep.CutBlock
namespace Go.Proofs.Ytbjdndialiddpaa
open Go.RowKit Go.Maps

/-- A list's state: it lies in what is new since w, apart from block ex. -/
structure LX (w : World) (b ex : Nat) (ty : TypeId) (L : List BEnt) (ver : Nat) (G : Nat → Prop) (wr : World) : Prop where
  lst : ListAt wr b ty G L ver
  low : ∀ k, G k → w.heap.size ≤ k ∧ k < wr.heap.size ∧ k ≠ ex
  ok : LOk L
  new : w.heap.size ≤ b
  ne : b ≠ ex
theorem LX.lt {w wr : World} {b ex : Nat} {ty : TypeId} {L : List BEnt} {ver : Nat} {G : Nat → Prop} (h : LX w b ex ty L ver G wr) : b < wr.heap.size := h.lst.lt
theorem LX.chg {S : Nat → Prop} {w wr w' : World} {b ex : Nat} {ty : TypeId} {L : List BEnt} {ver : Nat} {G : Nat → Prop} (h : LX w b ex ty L ver G wr) (hc : Chg S wr w') (hb : ¬ S b) (hs : ∀ k, G k → ¬ S k) : LX w b ex ty L ver G w' :=
  ⟨h.lst.chg hc hb hs, fun k hk => ⟨(h.low k hk).1, Nat.lt_of_lt_of_le (h.low k hk).2.1 hc.size, (h.low k hk).2.2⟩, h.ok, h.new, h.ne⟩
theorem LX.act {w w1 w2 : World} {b ex : Nat} {ty : TypeId} {L L2 : List BEnt} {ver v2 : Nat} {G : Nat → Prop} {ec : Int} {e : Ending} (hl : LX w b ex ty L ver G w1) (hex : ex < w1.heap.size) (ho : LOk L2) (h : AddRes w1 b ty G ec L2 v2 e w2) : LX w b ex ty L2 (verN ec v2) (fun k => G k ∨ (w1.heap.size ≤ k ∧ k < w2.heap.size)) w2 := by
  obtain ⟨_, h2, h3⟩ := h
  refine ⟨h2, fun k hk => ?_, ho, hl.new, hl.ne⟩
  have := hl.lt
  have := hl.new
  rcases hk with q | q
  · obtain ⟨q1, q2, q3⟩ := hl.low k q
    exact ⟨q1, Nat.lt_of_lt_of_le q2 h3.size, q3⟩
  · exact ⟨by omega, q.2, by omega⟩
theorem own_cellsT {w : World} {base : Nat} {e : TypeId} {size : Nat} {v : Value} {n : Nat} {xs : List Value} (h : w.ownsRow base e size v n xs) {k : Nat} (hk : v.ownBlock = some k) : ∃ cs, w.heap[k]? = some (.cells cs e (0, 0)) := by
  obtain ⟨_, ⟨rfl, _⟩ | ⟨g, cap, cur, rfl, _, hh, _⟩⟩ := h
  · cases hk
  · cases hk; exact ⟨cur, hh⟩
/-- The entry that is the law's own: its block, its set's row. -/
def OwnS (w : World) (op : Int) (s : List ByteArray) (qv : Value) (wc : World) : Prop := ∃ q a c, qv = .pointer (some ⟨q, 0, none⟩) ∧ w.heap.size ≤ q ∧ wc.heap[q]? = some (.cells #[.int .i64 op, .slice a s.length c] 36 (0, 0)) ∧ wc.ownsRow w.heap.size 40 1 (.slice a s.length c) s.length (wcells s) ∧ (∀ x, (Value.slice a s.length c).ownBlock = some x → x ≠ q) ∧ Chg (fun _ => False) w wc
theorem ownS_mk {w wd W : World} {op : Int} {s : List ByteArray} {q : Nat} {a : Option Addr} {c : Nat} (h0 : Chg (fun _ => False) w wd) (hq : wd.heap.size ≤ q) (hb : W.heap[q]? = some (.cells #[.int .i64 0, .slice none 0 0] 36 (0, 0))) (ho : W.ownsRow wd.heap.size 40 1 (.slice a s.length c) s.length (wcells s)) (hn : ∀ x, (Value.slice a s.length c).ownBlock = some x → x ≠ q) (hc : Chg (fun _ => False) wd W) :
    OwnS w op s (.pointer (some ⟨q, 0, none⟩)) ((W.setCell ⟨q, 0, none⟩ (.int .i64 op)).setCell ⟨q, 1, none⟩ (.slice a s.length c)) := by
  have hs := h0.size
  have k8 := (chg_cell W q 0 (.int .i64 op)).trans (chg_cell (W.setCell ⟨q, 0, none⟩ (.int .i64 op)) q 1 (.slice a s.length c))
  exact ⟨q, a, c, rfl, by omega, obj_setCell (o := 1) (obj_setCell (o := 0) hb _) _, own_base (own_chg ho k8 (fun k hk e => hn k hk e)) hs, hn, (h0.trans hc).next k8 (fun x hx e => by omega)⟩
theorem act_sizes {L : List BEnt} {x : BEnt} (h : ∀ y ∈ L, Sizes y.2) (hx : Sizes x.2) : (∀ y ∈ addL x L, Sizes y.2) ∧ (∀ y ∈ remL x L, Sizes y.2) := by
  constructor
  · intro y hy
    unfold addL at hy
    by_cases e : addE x L = 0
    · rw [if_pos e] at hy
      rcases List.mem_append.1 hy with q | q
      · exact h y q
      · rw [List.mem_singleton] at q; rw [q]; exact hx
    · rw [if_neg e] at hy; exact h y hy
  · intro y hy
    unfold remL at hy
    by_cases e : remE x L = 0
    · rw [if_pos e] at hy; exact h y (List.mem_of_mem_erase hy)
    · rw [if_neg e] at hy; exact h y hy
theorem cells_set {w : World} {g : Nat} {cs : Array Value} {ty : TypeId} (h : w.heap[g]? = some (.cells cs ty (0, 0))) (o : Nat) (v : Value) : ∃ cs', (w.setCell ⟨g, o, none⟩ v).heap[g]? = some (.cells cs' ty (0, 0)) ∧ cs'.size = cs.size := ⟨_, obj_setCell h v, by simp⟩
theorem cells_cell {w : World} {g : Nat} {cs : Array Value} {ty : TypeId} (h : w.heap[g]? = some (.cells cs ty (0, 0))) {o : Nat} (ho : o < cs.size) : ∃ v, w.cell? ⟨g, o, none⟩ = some v := ⟨cs[o], cell_of h (Array.getElem?_eq_getElem ho)⟩
theorem own_row1 {w : World} {base : Nat} {e : TypeId} {n c : Nat} {a : Option Addr} {xs : List Value} (h : w.ownsRow base e 1 (.slice a n c) n xs) (hn : 0 < n) : ∃ g cs, a = some ⟨g, 0, none⟩ ∧ base ≤ g ∧ w.heap[g]? = some (.cells cs e (0, 0)) ∧ n ≤ cs.size := by
  obtain ⟨_, ⟨_, q⟩ | ⟨g, cap, cur, q, hb, hh, h1, _, h3, _⟩⟩ := h
  · omega
  · cases q
    exact ⟨g, cur, rfl, hb, hh, by omega⟩
/-- Behind an act: both lists, the law's own entry. -/
structure SwS (w w2 w8 : World) (b1 b2 ver q : Nat) (op : Int) (a : Option Addr) (c : Nat) (s : List ByteArray) (L2 : List BEnt) (ver2 : Nat) (G1 G2 : Nat → Prop) (wx : World) : Prop where
  ver : ver2 ≤ ver + 1
  l : LX w2 b1 b2 70 L2 ver2 G1 wx
  r : LX w2 b2 b1 44 L2 ver2 G2 wx
  sz : ∀ x ∈ L2, Sizes x.2
  ap : ∀ x, (Value.slice a s.length c).ownBlock = some x → ¬ G1 x ∧ ¬ G2 x ∧ x ≠ b1 ∧ x ≠ b2 ∧ x ≠ q
  q : wx.heap[q]? = some (.cells #[.int .i64 op, .slice a s.length c] 36 (0, 0))
  o : wx.ownsRow w8.heap.size 40 1 (.slice a s.length c) s.length (wcells s)
  c : Chg (fun _ => False) w wx
theorem sw_none {w w2 w8 wx : World} {b1 b2 ver q p : Nat} {op : Int} {a : Option Addr} {c : Nat} {s : List ByteArray} {L : List BEnt} {G1 G2 : Nat → Prop} (hP : LX w2 b1 b2 70 L ver G1 wx) (hR : LX w2 b2 b1 44 L ver G2 wx) (hz : ∀ x ∈ L, Sizes x.2)
    (hlow : (∀ k, G1 k → k < p) ∧ ∀ k, G2 k → k < p) (hb1 : b1 < p) (hb2 : b2 < p) (hp : p < w8.heap.size) (hn : ∀ x, (Value.slice a s.length c).ownBlock = some x → x ≠ q) (hq : wx.heap[q]? = some (.cells #[.int .i64 op, .slice a s.length c] 36 (0, 0)))
    (ho : wx.ownsRow w8.heap.size 40 1 (.slice a s.length c) s.length (wcells s)) (hc : Chg (fun _ => False) w wx) : SwS w w2 w8 b1 b2 ver q op a c s L ver G1 G2 wx :=
  ⟨by omega, hP, hR, hz, fun x hx => by
    have := (ho.lt x hx).1
    exact ⟨fun e => by have := hlow.1 x e; omega, fun e => by have := hlow.2 x e; omega, by omega, by omega, hn x hx⟩, hq, ho, hc⟩
theorem sw_act {w w2 w8 wd w9 w10 : World} {b1 b2 ver q p : Nat} {op : Int} {a : Option Addr} {c : Nat} {s : List ByteArray} {L L2 : List BEnt} {G1 G2 : Nat → Prop} {ec : Int} {e1 e2 : Ending} (hP : LX w2 b1 b2 70 L ver G1 wd) (hR : LX w2 b2 b1 44 L ver G2 wd)
    (hlow : (∀ k, G1 k → k < p) ∧ ∀ k, G2 k → k < p) (hb1 : b1 < p) (hb2 : b2 < p) (hp : p < w8.heap.size) (hpw : w.heap.size ≤ w2.heap.size) (hn : ∀ x, (Value.slice a s.length c).ownBlock = some x → x ≠ q) (h8 : w8.heap.size ≤ q) (hq : wd.heap[q]? = some (.cells #[.int .i64 op, .slice a s.length c] 36 (0, 0)))
    (ho : wd.ownsRow w8.heap.size 40 1 (.slice a s.length c) s.length (wcells s)) (hc : Chg (fun _ => False) w wd) (hok : LOk L2) (hz : ∀ x ∈ L2, Sizes x.2)
    (h1 : AddRes wd b1 70 G1 ec L2 ver e1 w9) (h2 : AddRes w9 b2 44 G2 ec L2 ver e2 w10) : ∃ L2 ver2 G1' G2', SwS w w2 w8 b1 b2 ver q op a c s L2 ver2 G1' G2' w10 := by
  have k1 := h1.2.2
  have k2 := h2.2.2
  have n1 := hP.new
  have n2 := hR.new
  have l1 := hP.lt
  have l2 := hR.lt
  have s1 := k1.size
  have s2 := k2.size
  have ne := hR.ne
  have R9 : LX w2 b2 b1 44 L ver G2 w9 := hR.chg k1 ne (fun k hk e => (hR.low k hk).2.2 e)
  have P9 := hP.act (by omega) hok h1
  have R10 := R9.act (by omega) hok h2
  have P10 := P9.chg k2 (fun e => ne e.symm) (fun k hk e => (P9.low k hk).2.2 e)
  refine ⟨L2, _, _, _, by unfold verN; split <;> omega, P10, R10, hz, fun x hx => ?_, k2.obj (fun e => by omega) (k1.obj (fun e => by omega) hq), ?_, ?_⟩
  · obtain ⟨x1, x2⟩ := ho.lt x hx
    refine ⟨fun e => ?_, fun e => ?_, by omega, by omega, hn x hx⟩
    · rcases e with e | e
      · have := hlow.1 x e; omega
      · omega
    · rcases e with e | e
      · have := hlow.2 x e; omega
      · omega
  · exact own_chg (own_chg ho k1 (fun x hx e => by have := (ho.lt x hx).1; omega)) k2 (fun x hx e => by have := (ho.lt x hx).1; omega)
  · exact (hc.next k1 (fun x hx e => by omega)).next k2 (fun x hx e => by omega)
/-- What the law's last loop keeps: from entry j on nothing was written over. -/
structure LastS (base j : Nat) (va : Value) (E : List (Int × Value)) (L : List BEnt) (w wr : World) : Prop where
  c : Chg (fun k => base ≤ k) w wr
  row : wr.ownsRow base 36 2 va E.length (ecells E)
  ent : ∀ (i : Nat) e x, j ≤ i → E[i]? = some e → L[i]? = some x → e.1 = x.1 ∧ wr.ownsRow base 40 1 e.2 x.2.length (wcells x.2)
theorem lastS_start {base : Nat} {va : Value} {E : List (Int × Value)} {L : List BEnt} {w : World} (h : OwnE w base va E L) : LastS base 0 va E L w w := ⟨Chg.refl _ _, h.row, fun i e x _ h1 h2 => h.ent i e x h1 h2⟩
theorem LastS.next {base j : Nat} {va : Value} {E : List (Int × Value)} {L : List BEnt} {w wr w' : World} {e : Int × Value} {g o : Nat} {v : Value} (h : LastS base j va E L w wr) (hap : ∀ (i j : Nat) e f, i < j → E[i]? = some e → E[j]? = some f → Apart e.2 f.2) (hapr : ∀ (j : Nat) e, E[j]? = some e → Apart e.2 va) (he : E[j]? = some e) (hk : Chg (fun _ => False) wr w') (hb : e.2.ownBlock = some g) (hg : base ≤ g) :
    LastS base (j + 1) va E L w (w'.setCell ⟨g, o, none⟩ v) := by
  have kk := chg_cell w' g o v
  refine ⟨(h.c.trans (hk.mono (fun _ _ e => e.elim))).trans (kk.mono (fun k _ e => by rw [e]; exact hg)), ?_, fun i f x hi h1 h2 => ?_⟩
  · exact own_chg (own_chg h.row hk (fun _ _ e => e)) kk (fun k hk' e' => by subst e'; exact hapr j e he k hb hk')
  · obtain ⟨q1, q2⟩ := h.ent i f x (by omega) h1 h2
    exact ⟨q1, own_chg (own_chg q2 hk (fun _ _ e => e)) kk (fun k hk' e' => by subst e'; exact hap j i e f (by omega) he h1 k hb hk')⟩
theorem ecells_own {w : World} {base n c : Nat} {a : Option Addr} {E : List (Int × Value)} (h : w.ownsRow base 36 2 (.slice a n c) E.length (ecells E)) {j : Nat} {e : Int × Value} (he : E[j]? = some e) : ∃ g, a = some ⟨g, 0, none⟩ ∧ w.cell? ⟨g, j * 2, none⟩ = some (.int .i64 e.1) ∧ w.cell? ⟨g, j * 2 + 1, none⟩ = some e.2 := by
  have hl := (List.getElem?_eq_some_iff.1 he).1
  obtain ⟨g, rfl⟩ := own_some h (by omega)
  obtain ⟨c1, c2⟩ := ecells_get E j e he
  obtain ⟨_, _, q⟩ := own_shape h
  cases q
  exact ⟨g, rfl, by rw [h.cellAt _ (by omega)]; exact c1, by rw [h.cellAt _ (by omega)]; exact c2⟩
set_option maxHeartbeats 4000000 in
set_option maxRecDepth 100000 in
theorem does_law (w : World) (ev av : Value) (L0 : List BEnt) (A : List (Int × BEnt)) (hE : EntsAt w ev (· < w.heap.size) L0) (hA : ActsAt w av (· < w.heap.size) A) :
    Calls Try.prog 3 #[ev, av] w fun e w' => e = .returned (.bool true) ∧ Chg (fun _ => False) w w' := by
  have AW := Lib.hid (awake16_any w)
  have HE := Lib.hid hE
  have HA := Lib.hid hA
  obtain ⟨la, cap, rfl, hcap, hcm⟩ := hE.shape
  obtain ⟨ra, rcap, rfl, hl0, _⟩ := hA
  unfold maxLen at hcm hl0
  clear hE
  go_enter Try.func3, Try.ntmps3
  go_wp2_with fail
  (with_reducible refine (AW.out).mono ?_)
  rintro e w1 ⟨rfl, k1⟩
  have K1 := Lib.hid k1
  have MA := Lib.hid (many_any w1 _ L0 _ (HE.out.chg k1 (fun _ _ e => e)))
  clear k1 AW
  go_wp2_with fail
  (with_reducible refine (MA.out).mono ?_)
  rintro e w2 ⟨r, rfl, hr, k2⟩
  have HNM := Lib.hid hr
  have K2 := Lib.hid (K1.out.trans k2)
  clear hr k2 MA K1
  cases r with
  | true =>
    go_wp2
    go_ret
    exact ⟨rfl, K2.out⟩
  | false =>
    have hL30 := (HNM.out rfl).few
    have ZL := Lib.hid (show ∀ x ∈ L0, Sizes x.2 from fun x hx => setOk_sizes ((HNM.out rfl).sets x hx))
    have N1 := Lib.hid (lnew_any w2 _ L0 _ (HE.out.chg K2.out (fun _ _ e => e)) (by omega))
    have N2 := Lib.hid (fun w1 (q : Chg (fun _ => False) w w1) => rnew_any w1 _ L0 _ (HE.out.chg q (fun _ _ e => e)) (by omega) ZL.out)
    clear HNM
    by_cases h0 : newE [] L0 = 0
    · have H0 := Lib.hid h0
      clear h0
      go_wp2_with fail
      (with_reducible refine (N1.out).mono ?_)
      rintro e w5 ⟨hq, _, k5⟩
      obtain ⟨b1, rfl, hb1, hl⟩ := hq H0.out
      have L5 := Lib.hid hl
      have K5 := Lib.hid (K2.out.trans k5)
      have N6 := Lib.hid (N2.out w5 K5.out)
      have hb5 : b1 < w5.heap.size := hl.lt
      have hw2 : w.heap.size ≤ w2.heap.size := K2.out.size
      have hw5 : w2.heap.size ≤ w5.heap.size := k5.size
      clear hq k5 hl N1 N2 K2
      go_wp2_with fail
      (with_reducible refine (N6.out).mono ?_)
      rintro e w7 ⟨hq, _, k7⟩
      obtain ⟨b2, rfl, hb2, hl⟩ := hq H0.out
      have hb7 : b2 < w7.heap.size := hl.lt
      have hw7 : w5.heap.size ≤ w7.heap.size := k7.size
      have LOK := Lib.hid (show LOk L0 from by have := newE_ok L0 [] LOk.nil H0.out; rwa [List.nil_append] at this)
      have P7 := Lib.hid (show ∃ G, LX w2 b1 b2 70 L0 0 G w7 from ⟨_, L5.out.chg k7 (fun e => e) (fun _ _ e => e), fun k hk => ⟨hk.1, by have := hk.2.1; omega, by have := hk.2.1; omega⟩, LOK.out, hb1, by omega⟩)
      have R7 := Lib.hid (show ∃ G, LX w2 b2 b1 44 L0 0 G w7 from ⟨_, hl, fun k hk => ⟨by have := hk.1; omega, hk.2.1, by have := hk.1; omega⟩, LOK.out, by omega, by omega⟩)
      have K7 := Lib.hid (K5.out.trans k7)
      clear hq k7 hl N6 L5 K5 H0 LOK
      go_wp2
      go_loopw [9] (fun iv wr => ∃ (k ver : Nat) (L : List BEnt), k ≤ A.length ∧ k ≤ 60 ∧ ver ≤ k ∧ iv = .int .i64 k ∧ Hid ((∃ G, LX w2 b1 b2 70 L ver G wr) ∧ (∃ G, LX w2 b2 b1 44 L ver G wr) ∧ (∀ x ∈ L, Sizes x.2) ∧ Chg (fun _ => False) w wr)) (fun iv _ => A.length - (intOf iv).toNat)
      case atStart => exact ⟨0, 0, L0, by omega, by omega, by omega, rfl, Lib.hid ⟨P7.out, R7.out, ZL.out, K7.out⟩⟩
      case round =>
        obtain ⟨k, ver, L, hk, hk6, hver, rfl, HI⟩ := hrel
        by_cases hlt : k < A.length ∧ k < 60
        · obtain ⟨hlt, hlt6⟩ := hlt
          have g60 : decide ((k : Int) < 60) = true := decide_eq_true (by omega)
          obtain ⟨x, hx⟩ : ∃ x, A[k]? = some x := ⟨_, List.getElem?_eq_getElem hlt⟩
          obtain ⟨_, _, eqn, _, hac⟩ := HA.out.chg HI.out.2.2.2 (fun _ _ e => e)
          cases eqn
          obtain ⟨g, o, sa, sc, rfl, _, d0, d1, d2, hs⟩ := hac k x hx
          obtain ⟨kind, op, s⟩ := x
          simp only at d0 d1 d2 hs
          obtain ⟨⟨G1, hP⟩, ⟨G2, hR⟩, hZ, hC⟩ := HI.out
          have PR := Lib.hid hP
          have RR := Lib.hid hR
          have ZZ := Lib.hid hZ
          have ka := chg_alloc (fun _ => False) wr (.cells #[.int .i64 kind, .int .i64 op, .slice sa s.length sc] 38)
          have OB := Lib.hid (obj_alloc_new wr (.cells #[.int .i64 kind, .int .i64 op, .slice sa s.length sc] 38))
          have KA := Lib.hid (hC.trans ka)
          have HS := Lib.hid (hs.chg ka (fun _ _ e => e))
          have hwr : w.heap.size ≤ wr.heap.size := hC.size
          have hbp : b1 < wr.heap.size := hP.lt
          have hbr : b2 < wr.heap.size := hR.lt
          have MA2 := many_any _ _ [(op, s)] _ (entsAt_lit _ (op, s) (.slice sa s.length sc) _ HS.out)
          rw [World.size_alloc] at MA2
          have MA2 := Lib.hid MA2
          have KB := Lib.hid (chg_alloc (fun _ => False) (wr.alloc (.cells #[.int .i64 kind, .int .i64 op, .slice sa s.length sc] 38)) (.cells #[.int .i64 op, .slice sa s.length sc] 36))
          have KA0 := Lib.hid ka
          clear hs hac hx HI hP hR hZ hC ka
          go_wp2_with fail
          (with_reducible refine (MA2.out).mono ?_)
          rintro e w8 ⟨r, rfl, hr, k8⟩
          clear d0 d1 d2
          have kx := KB.out.trans k8
          have o8 := kx.obj (fun e => e) OB.out
          have K8 := Lib.hid (KA.out.trans kx)
          have H8 := Lib.hid (HS.out.chg kx (fun _ _ e => e))
          have PR8 := Lib.hid (PR.out.chg (KA0.out.trans kx) (fun e => e) (fun _ _ e => e))
          have RR8 := Lib.hid (RR.out.chg (KA0.out.trans kx) (fun e => e) (fun _ _ e => e))
          have LOW := Lib.hid (show (∀ k, G1 k → k < wr.heap.size) ∧ (∀ k, G2 k → k < wr.heap.size) from ⟨fun k hk => (PR.out.low k hk).2.1, fun k hk => (RR.out.low k hk).2.1⟩)
          have hp8 : wr.heap.size < w8.heap.size := lt_of_obj o8
          have HR := Lib.hid hr
          clear kx k8 MA2 KB KA HS OB PR RR KA0 hr
          have O8 := Lib.hid o8
          have p0 : w8.cell? ⟨wr.heap.size, 0, none⟩ = some (.int .i64 kind) := cell_of o8 rfl
          have p1 : w8.cell? ⟨wr.heap.size, 1, none⟩ = some (.int .i64 op) := cell_of o8 rfl
          have p2 : w8.cell? ⟨wr.heap.size, 2, none⟩ = some (.slice sa s.length sc) := cell_of o8 rfl
          clear o8
          generalize wr.heap.size = p at *
          cases r with
          | true =>
            go_wp2
            go_ret
            exact ⟨rfl, K8.out⟩
          | false =>
            have ZS := Lib.hid (setOk_sizes ((HR.out rfl).sets (op, s) (by simp)))
            have hs30 : s.length ≤ 30 := ((HR.out rfl).sets (op, s) (by simp)).1
            clear HR
            go_upto_region 15 with fail
            go_cut [11] (fun qv wc => OwnS w8 op s qv wc)
            case first =>
              rename_i J K' hJ hK
              refine wp_region_tree (N := 146) (.rd [0, 1, 2, 4, 5, 6] (.two 3 9 (.two 7 9 (.rd [8] (.ef 9 (.ef 10 .nil))) (.ef 7 (.rd [8] (.ef 10 .nil)))) (.ef 3 (.ef 7 (.rd [8] (.ef 10 .nil)))))) 10 (fun w' => w'.cell? ⟨p, 1, none⟩ = some (.int .i64 op) ∧ w'.cell? ⟨p, 2, none⟩ = some (.slice sa s.length sc)) (by kernel_rfl) (by kernel_rfl) (by kernel_rfl) (by kernel_rfl) (Nat.le_of_ble_eq_true rfl) ⟨p1, p2⟩ ?_
              refine tree_rd (A := ?Aa) ?ha1 ?ha2
              case ha1 =>
                rintro w' ⟨q0, q1⟩ K hK
                simp only [opsAt, List.filterMap_cons, List.filterMap_nil, List.getElem?_toArray, List.getElem?_cons_succ, List.getElem?_cons_zero]
                refine WS.out ?_
                repeat (refine ws_step (fun K hK => ?_); go_simp; refine hK _ ?_; clear hK K)
                refine ws_nil ?_
                exact hK
              have D := Lib.hid (chg_drew (fun _ => False) w8)
              have SD := Lib.hid (show ∀ W, Chg (fun _ => False) w8.drew W → W.cell? ⟨p, 1, none⟩ = some (.int .i64 op) ∧ W.cell? ⟨p, 2, none⟩ = some (.slice sa s.length sc) from fun W k => ⟨cell_chg (D.out.trans k) (fun e => e) p1, cell_chg (D.out.trans k) (fun e => e) p2⟩)
              have HD := Lib.hid (H8.out.chg D.out (fun _ _ e => e))
              have D8 := Lib.hid D.out
              clear p0 p1 p2
              generalize w8.drew = wd at *
              refine tree_two rfl rfl ?x1 ?x2
              case' x1 =>
                go_wp2_with fail
                have KC := Lib.hid (chg_alloc (fun _ => False) wd (.cells #[] 40))
                refine ⟨SD.out _ KC.out, ?_⟩
                refine tree_two rfl rfl ?x11 ?x12
              case' x11 =>
                refine wpList_pushS rfl (.tmp 64) (.tmp 67) 34 rfl 40 1 16 Try.underlying34 Try.elemWord wd.heap.size (.slice (some ⟨wd.heap.size, 0, none⟩) 0 0) 0 [] rfl (own_empty _ _ _ _ (Nat.le_refl _)) sa s.length sc (wcells s) rfl ?b1 ?b2 ?b3 ?b4 ?b5 ?b6 ?b7 ?b8
                case b1 => unfold wcells; rw [List.length_map]; omega
                case b2 => exact words_src (HD.out.chg KC.out (fun _ _ e => e)).at_
                case b3 => intro e; exact HD.out.nil _ _ (by rw [e])
                case b4 => exact wcells_one s
                case b5 => omega
                case b6 => unfold maxLen; omega
                case b7 => simp only [World.size_alloc]; omega
                intro v7 W7 o7 g7
                have o7b : W7.ownsRow wd.heap.size 40 1 v7 s.length (wcells s) := by simpa using o7
                have KC2 := Lib.hid (show Chg (fun _ => False) wd W7 from KC.out.next (Chg.of_grown g7) (fun x hx e => by
                  have e2 : wd.heap.size = x := by simpa [Value.ownBlock] using e
                  omega))
                obtain ⟨a7, c7, rfl⟩ := own_shape o7b
                clear o7 g7 KC
                go_wp2_with fail
                refine ⟨SD.out _ KC2.out, ?_⟩
                refine tree_rd (A := ?Ab) ?hb1 ?hb2
                case hb1 =>
                  rintro w' ⟨q0, q1⟩ K hK
                  simp only [opsAt, List.filterMap_cons, List.filterMap_nil, List.getElem?_toArray, List.getElem?_cons_succ, List.getElem?_cons_zero]
                  refine WS.out ?_
                  repeat (refine ws_step (fun K hK => ?_); go_simp; refine hK _ ?_; clear hK K)
                  refine ws_nil ?_
                  exact hK
                refine tree_ef rfl ?_
                go_wp2_with fail
                have KC := Lib.hid (KC2.out.alloc (.cells #[.int .i64 0, .slice none 0 0] 36))
                refine ⟨.inr (SD.out _ KC.out), ?_⟩
                have O7 := Lib.hid (own_chg o7b (chg_alloc (fun _ => False) W7 (.cells #[.int .i64 0, .slice none 0 0] 36)) (fun _ _ e => e))
                have BQ := Lib.hid (obj_alloc_new W7 (.cells #[.int .i64 0, .slice none 0 0] 36))
                have hq1 : wd.heap.size ≤ W7.heap.size := KC2.out.size
                have hq2 : ∀ x, (Value.slice a7 s.length c7).ownBlock = some x → x ≠ W7.heap.size := fun x hx => by have := (o7b.lt x hx).2; omega
                clear o7b KC2
                generalize W7.heap.size = q at *
                generalize W7.alloc (.cells #[.int .i64 0, .slice none 0 0] 36) = W9 at *
              case' x12 =>
                go_wp2_with fail
                have KC2 := Lib.hid (KC.out.alloc (.cells #[.int .i64 0, .slice none 0 0] 36))
                refine ⟨SD.out _ KC2.out, ?_⟩
                have BQ0 := Lib.hid (obj_alloc_new (wd.alloc (.cells #[] 40)) (.cells #[.int .i64 0, .slice none 0 0] 36))
                clear KC
                have KC := Lib.hid KC2.out
                refine tree_ef rfl ?_
                refine wpList_pushS rfl (.tmp 64) (.tmp 67) 34 rfl 40 1 16 Try.underlying34 Try.elemWord wd.heap.size (.slice (some ⟨wd.heap.size, 0, none⟩) 0 0) 0 [] rfl ((own_empty _ _ _ _ (Nat.le_refl _)).alloc _) sa s.length sc (wcells s) rfl ?c1 ?c2 ?c3 ?c4 ?c5 ?c6 ?c7 ?c8
                case c1 => unfold wcells; rw [List.length_map]; omega
                case c2 => exact words_src (HD.out.chg KC.out (fun _ _ e => e)).at_
                case c3 => intro e; exact HD.out.nil _ _ (by rw [e])
                case c4 => exact wcells_one s
                case c5 => omega
                case c6 => unfold maxLen; omega
                case c7 => simp only [World.size_alloc]; omega
                intro v7 W7 o7 g7
                have o7b : W7.ownsRow wd.heap.size 40 1 v7 s.length (wcells s) := by simpa using o7
                have KC3 := Lib.hid (show Chg (fun _ => False) wd W7 from KC.out.next (Chg.of_grown g7) (fun x hx e => by
                  have e2 : wd.heap.size = x := by simpa [Value.ownBlock] using e
                  omega))
                have BQ := Lib.hid ((Chg.of_grown g7).obj (fun e => by simp [Value.ownBlock] at e) BQ0.out)
                rw [World.size_alloc] at BQ
                have hq2 : ∀ x, v7.ownBlock = some x → x ≠ wd.heap.size + 1 := fun x hx e => by
                  subst e
                  obtain ⟨cs, hcs⟩ := own_cellsT o7b hx
                  rw [BQ.out] at hcs
                  cases hcs
                obtain ⟨a7, c7, rfl⟩ := own_shape o7b
                clear o7 g7 KC KC2 BQ0
                have KC := Lib.hid KC3.out
                clear KC3
                go_wp2_with fail
                refine ⟨.inr (SD.out _ KC.out), ?_⟩
                refine tree_rd (A := ?Ac) ?hc1 ?hc2
                case hc1 =>
                  rintro w' ⟨q0, q1⟩ K hK
                  simp only [opsAt, List.filterMap_cons, List.filterMap_nil, List.getElem?_toArray, List.getElem?_cons_succ, List.getElem?_cons_zero]
                  refine WS.out ?_
                  repeat (refine ws_step (fun K hK => ?_); go_simp; refine hK _ ?_; clear hK K)
                  refine ws_nil ?_
                  exact hK
                have O7 := Lib.hid o7b
                have hq1 : wd.heap.size ≤ wd.heap.size + 1 := by omega
                clear o7b
                generalize wd.heap.size + 1 = q at *
                generalize W7 = W9 at *
              case' x2 =>
                go_wp2_with fail
                have KC0 := Lib.hid (chg_alloc (fun _ => False) wd (.cells #[.int .i64 0, .slice none 0 0] 36))
                refine ⟨SD.out _ KC0.out, ?_⟩
                have BQ0 := Lib.hid (obj_alloc (.cells #[] 40) (obj_alloc_new wd (.cells #[.int .i64 0, .slice none 0 0] 36)))
                refine tree_ef rfl ?_
                go_wp2_with fail
                have KC := Lib.hid (KC0.out.alloc (.cells #[] 40))
                clear KC0
                refine ⟨.inr (SD.out _ KC.out), ?_⟩
                have OE := Lib.hid (show World.ownsRow ((wd.alloc (.cells #[.int .i64 0, .slice none 0 0] 36)).alloc (.cells #[] 40)) wd.heap.size 40 1 (.slice (some ⟨wd.heap.size + 1, 0, none⟩) 0 0) 0 [] from by have := own_empty (wd.alloc (.cells #[.int .i64 0, .slice none 0 0] 36)) wd.heap.size 40 1 (by simp); rw [World.size_alloc] at this; exact this)
                refine tree_ef rfl ?_
                refine wpList_pushS rfl (.tmp 64) (.tmp 67) 34 rfl 40 1 16 Try.underlying34 Try.elemWord wd.heap.size (.slice (some ⟨wd.heap.size + 1, 0, none⟩) 0 0) 0 [] rfl OE.out sa s.length sc (wcells s) rfl ?d1 ?d2 ?d3 ?d4 ?d5 ?d6 ?d7 ?d8
                case d1 => unfold wcells; rw [List.length_map]; omega
                case d2 => exact words_src (HD.out.chg KC.out (fun _ _ e => e)).at_
                case d3 => intro e; exact HD.out.nil _ _ (by rw [e])
                case d4 => exact wcells_one s
                case d5 => omega
                case d6 => unfold maxLen; omega
                case d7 => simp only [World.size_alloc]; omega
                intro v7 W7 o7 g7
                have o7b : W7.ownsRow wd.heap.size 40 1 v7 s.length (wcells s) := by simpa using o7
                have KC3 := Lib.hid (show Chg (fun _ => False) wd W7 from KC.out.next (Chg.of_grown g7) (fun x hx e => by
                  have e2 : wd.heap.size + 1 = x := by simpa [Value.ownBlock] using e
                  omega))
                have BQ := Lib.hid ((Chg.of_grown g7).obj (fun e => by simp [Value.ownBlock] at e) BQ0.out)
                have hq2 : ∀ x, v7.ownBlock = some x → x ≠ wd.heap.size := fun x hx e => by
                  subst e
                  obtain ⟨cs, hcs⟩ := own_cellsT o7b hx
                  rw [BQ.out] at hcs
                  cases hcs
                obtain ⟨a7, c7, rfl⟩ := own_shape o7b
                clear o7 g7 KC BQ0 OE
                have KC := Lib.hid KC3.out
                clear KC3
                go_wp2_with fail
                refine ⟨.inr (SD.out _ KC.out), ?_⟩
                refine tree_rd (A := ?Ad) ?hd1 ?hd2
                case hd1 =>
                  rintro w' ⟨q0, q1⟩ K hK
                  simp only [opsAt, List.filterMap_cons, List.filterMap_nil, List.getElem?_toArray, List.getElem?_cons_succ, List.getElem?_cons_zero]
                  refine WS.out ?_
                  repeat (refine ws_step (fun K hK => ?_); go_simp; refine hK _ ?_; clear hK K)
                  refine ws_nil ?_
                  exact hK
                have O7 := Lib.hid o7b
                have hq1 : wd.heap.size ≤ wd.heap.size := Nat.le_refl _
                clear o7b
                obtain ⟨q, hqe⟩ : ∃ q, q = wd.heap.size := ⟨_, rfl⟩
                generalize W7 = W9 at *
              all_goals
                refine tree_ef rfl ?_
                have c0 : W9.cell? ⟨_, 0, none⟩ = some (.int .i64 0) := cell_of BQ.out rfl
                have c1 : W9.cell? ⟨_, 1, none⟩ = some (.slice none 0 0) := cell_of BQ.out rfl
                have f0 := frozen_of (o := 0) BQ.out
                have f1 := frozen_of (o := 1) BQ.out
                have FIN := Lib.hid (ownS_mk (op := op) D8.out hq1 BQ.out O7.out hq2 KC.out)
                clear BQ O7 hq2 hq1 KC SD HD
                go_wp2_with fail
                refine hK _ _ ?_
                go_meet
                case rel => exact FIN.out
            case rest =>
              obtain ⟨q, a7, c7, rfl, hq, bq, oq, nq, kq⟩ := hcut
              have BQ := Lib.hid bq
              have OQ := Lib.hid oq
              have NQ := Lib.hid nq
              have PQ := Lib.hid (PR8.out.chg kq (fun e => e) (fun _ _ e => e))
              have RQ := Lib.hid (RR8.out.chg kq (fun e => e) (fun _ _ e => e))
              have OP := Lib.hid (kq.obj (fun e => e) O8.out)
              have HQ := Lib.hid (H8.out.chg kq (fun _ _ e => e))
              have KQ := Lib.hid (K8.out.trans kq)
              have hq8 : w8.heap.size ≤ wc.heap.size := kq.size
              have hqc : q < wc.heap.size := lt_of_obj bq
              have SZ := Lib.hid (show ∀ x ∈ s, x.size ≤ maxLen from fun x hx => by have := ZS.out x hx; unfold maxLen; omega)
              have p0 : wc.cell? ⟨p, 0, none⟩ = some (.int .i64 kind) := cell_of OP.out rfl
              have p1 : wc.cell? ⟨p, 1, none⟩ = some (.int .i64 op) := cell_of OP.out rfl
              have p2 : wc.cell? ⟨p, 2, none⟩ = some (.slice sa s.length sc) := cell_of OP.out rfl
              have z0 : wc.cell? ⟨q, 0, none⟩ = some (.int .i64 op) := cell_of bq rfl
              have z1 : wc.cell? ⟨q, 1, none⟩ = some (.slice a7 s.length c7) := cell_of bq rfl
              clear bq oq nq kq PR8 RR8 O8 H8 K8
              have OKL := Lib.hid PQ.out.ok
              go_upto_block 2 with fail
              go_cut [11] (fun qv wx => qv = .pointer (some ⟨q, 0, none⟩) ∧ ∃ L2 ver2 G1' G2', SwS w w2 w8 b1 b2 ver q op a7 c7 s L2 ver2 G1' G2' wx)
              case first =>
                rename_i J K' hJ hK
                by_cases hkk : kind ≠ 0 ∧ kind ≠ 1
                · have m0 : (kind == 0) = false := beq_eq_false_iff_ne.2 hkk.1
                  have m1 : (kind == 1) = false := beq_eq_false_iff_ne.2 hkk.2
                  clear hkk
                  have FIN := Lib.hid (sw_none (op := op) PQ.out RQ.out ZZ.out LOW.out hbp hbr hp8 NQ.out BQ.out OQ.out KQ.out)
                  go_wp2
                  go_meet
                  case rel => exact ⟨rfl, _, _, _, _, FIN.out⟩
                · have hk01 : kind = 0 ∨ kind = 1 := by omega
                  clear hkk
                  rcases hk01 with rfl | rfl
                  case inl =>
                    have C1 := Lib.hid (fun w1 (h : LX w2 b1 b2 70 L ver G1 w1) (hv : SetAt w1 (.slice a7 s.length c7) (fun k => (Value.slice a7 s.length c7).ownBlock = some k) s) => add_any w1 b1 _ (op, s) L ver a7 s.length c7 G1 _ h.lst (by omega) hv)
                    have C2 := Lib.hid (fun w1 (h : LX w2 b2 b1 44 L ver G2 w1) (hv : SetAt w1 (.slice sa s.length sc) (· < w.heap.size) s) => radd_any w1 b2 _ (op, s) L ver sa s.length sc G2 _ h.lst (by omega) (by have := OKL.out.few; omega) hv ZS.out)
                    have OK2 := Lib.hid (OKL.out.add (x := (op, s)))
                    have Z2 := Lib.hid (act_sizes ZZ.out (x := (op, s)) ZS.out).1
                    generalize addE (op, s) L = ec at C1 C2
                    generalize addL (op, s) L = L2 at C1 C2 OK2 Z2
                    go_wp2_with fail
                    refine wp_region_plan (N := 146) [.rd [0, 1, 3, 4, 5], .ef 2, .ef 6, .rd [7]] (fun W => W.cell? ⟨q, 0, none⟩ = some (.int .i64 op) ∧ W.cell? ⟨q, 1, none⟩ = some (.slice a7 s.length c7) ∧ W.cell? ⟨p, 1, none⟩ = some (.int .i64 op) ∧ W.cell? ⟨p, 2, none⟩ = some (.slice sa s.length sc)) (by kernel_rfl) (by kernel_rfl) (by kernel_rfl) (by kernel_rfl) (Nat.le_of_ble_eq_true rfl) ⟨z0, z1, p1, p2⟩ ?_
                    refine plan_rd (A := ?A1a) ?h1a ?h2a
                    case h1a =>
                      rintro w' ⟨y0, y1, y2, y3⟩ K hK
                      simp only [opsAt, List.filterMap_cons, List.filterMap_nil, List.getElem?_toArray, List.getElem?_cons_succ, List.getElem?_cons_zero]
                      refine WS.out ?_
                      repeat (refine ws_step (fun K hK => ?_); go_simp; refine hK _ ?_; clear hK K)
                      refine ws_nil ?_
                      exact hK
                    have D := Lib.hid (chg_drew (fun _ => False) wc)
                    have PD := Lib.hid (PQ.out.chg D.out (fun e => e) (fun _ _ e => e))
                    have RD := Lib.hid (RQ.out.chg D.out (fun e => e) (fun _ _ e => e))
                    have HD := Lib.hid (HQ.out.chg D.out (fun _ _ e => e))
                    have OD := Lib.hid (own_chg OQ.out D.out (fun _ _ e => e))
                    have BD := Lib.hid (D.out.obj (fun e => e) BQ.out)
                    have OPD := Lib.hid (D.out.obj (fun e => e) OP.out)
                    have KD := Lib.hid (KQ.out.trans D.out)
                    clear D z0 z1 p0 p1 p2 PQ RQ HQ OQ BQ OP KQ
                    generalize wc.drew = wd at *
                    have C1d := Lib.hid (C1.out wd PD.out (setAt_own OD.out SZ.out))
                    refine plan_ef rfl ?_
                    go_wp2_with fail
                    (with_reducible refine (C1d.out).mono ?_)
                    rintro e w9 hres
                    have RES1 := Lib.hid hres
                    obtain ⟨rfl, _, k9⟩ := hres
                    have hpn := PD.out.new
                    have hrn := RD.out.new
                    have B9 := Lib.hid (k9.obj (fun e => by omega) BD.out)
                    have P9 := Lib.hid (k9.obj (fun e => by omega) OPD.out)
                    have H9 := HD.out.chg k9 (fun x hx e => by omega)
                    have R9 := RD.out.chg k9 RD.out.ne (fun k hk e => (RD.out.low k hk).2.2 e)
                    have C2d := Lib.hid (C2.out w9 R9 H9)
                    clear C1d C1 C2 H9 R9 k9
                    go_wp2_with fail
                    refine ⟨⟨cell_of B9.out rfl, cell_of B9.out rfl, cell_of P9.out rfl, cell_of P9.out rfl⟩, ?_⟩
                    refine plan_ef rfl ?_
                    go_wp2_with fail
                    (with_reducible refine (C2d.out).mono ?_)
                    rintro e w10 hres
                    have FIN := Lib.hid (sw_act (op := op) PD.out RD.out LOW.out hbp hbr hp8 hw2 NQ.out hq BD.out OD.out KD.out OK2.out Z2.out RES1.out hres)
                    obtain ⟨rfl, _, k10⟩ := hres
                    have B10 := Lib.hid (k10.obj (fun e => by omega) B9.out)
                    have P10 := Lib.hid (k10.obj (fun e => by omega) P9.out)
                    clear C2d B9 P9 RES1 k10 PD RD BD OD KD OPD HD
                    go_wp2_with fail
                    refine ⟨⟨cell_of B10.out rfl, cell_of B10.out rfl, cell_of P10.out rfl, cell_of P10.out rfl⟩, ?_⟩
                    refine plan_rd (A := ?A2a) ?h3a ?h4a
                    case h3a =>
                      rintro w' ⟨y0, y1, y2, y3⟩ K hK
                      simp only [opsAt, List.filterMap_cons, List.filterMap_nil, List.getElem?_toArray, List.getElem?_cons_succ, List.getElem?_cons_zero]
                      refine WS.out ?_
                      repeat (refine ws_step (fun K hK => ?_); go_simp; refine hK _ ?_; clear hK K)
                      refine ws_nil ?_
                      exact hK
                    refine plan_nil ?_
                    go_wp2
                    go_meet
                    case rel => exact ⟨rfl, FIN.out⟩
                  case inr =>
                    have C1 := Lib.hid (fun w1 (h : LX w2 b1 b2 70 L ver G1 w1) (hv : SetAt w1 (.slice a7 s.length c7) (fun k => (Value.slice a7 s.length c7).ownBlock = some k) s) => rem_any w1 b1 _ (op, s) L ver a7 s.length c7 G1 _ h.lst (by omega) (by have := OKL.out.few; omega) hv)
                    have C2 := Lib.hid (fun w1 (h : LX w2 b2 b1 44 L ver G2 w1) (hv : SetAt w1 (.slice sa s.length sc) (· < w.heap.size) s) => rrem_any w1 b2 _ (op, s) L ver sa s.length sc G2 _ h.lst (by omega) (by have := OKL.out.few; omega) OKL.out.nodup (fun k hk => (h.low k hk).2.1) hv ZS.out)
                    have OK2 := Lib.hid (OKL.out.rem (x := (op, s)))
                    have Z2 := Lib.hid (act_sizes ZZ.out (x := (op, s)) ZS.out).2
                    generalize remE (op, s) L = ec at C1 C2
                    generalize remL (op, s) L = L2 at C1 C2 OK2 Z2
                    go_wp2_with fail
                    refine wp_region_plan (N := 146) [.rd [0, 1, 3, 4, 5], .ef 2, .ef 6, .rd [7]] (fun W => W.cell? ⟨q, 0, none⟩ = some (.int .i64 op) ∧ W.cell? ⟨q, 1, none⟩ = some (.slice a7 s.length c7) ∧ W.cell? ⟨p, 1, none⟩ = some (.int .i64 op) ∧ W.cell? ⟨p, 2, none⟩ = some (.slice sa s.length sc)) (by kernel_rfl) (by kernel_rfl) (by kernel_rfl) (by kernel_rfl) (Nat.le_of_ble_eq_true rfl) ⟨z0, z1, p1, p2⟩ ?_
                    refine plan_rd (A := ?A1b) ?h1b ?h2b
                    case h1b =>
                      rintro w' ⟨y0, y1, y2, y3⟩ K hK
                      simp only [opsAt, List.filterMap_cons, List.filterMap_nil, List.getElem?_toArray, List.getElem?_cons_succ, List.getElem?_cons_zero]
                      refine WS.out ?_
                      repeat (refine ws_step (fun K hK => ?_); go_simp; refine hK _ ?_; clear hK K)
                      refine ws_nil ?_
                      exact hK
                    have D := Lib.hid (chg_drew (fun _ => False) wc)
                    have PD := Lib.hid (PQ.out.chg D.out (fun e => e) (fun _ _ e => e))
                    have RD := Lib.hid (RQ.out.chg D.out (fun e => e) (fun _ _ e => e))
                    have HD := Lib.hid (HQ.out.chg D.out (fun _ _ e => e))
                    have OD := Lib.hid (own_chg OQ.out D.out (fun _ _ e => e))
                    have BD := Lib.hid (D.out.obj (fun e => e) BQ.out)
                    have OPD := Lib.hid (D.out.obj (fun e => e) OP.out)
                    have KD := Lib.hid (KQ.out.trans D.out)
                    clear D z0 z1 p0 p1 p2 PQ RQ HQ OQ BQ OP KQ
                    generalize wc.drew = wd at *
                    have C1d := Lib.hid (C1.out wd PD.out (setAt_own OD.out SZ.out))
                    refine plan_ef rfl ?_
                    go_wp2_with fail
                    (with_reducible refine (C1d.out).mono ?_)
                    rintro e w9 hres
                    have RES1 := Lib.hid hres
                    obtain ⟨rfl, _, k9⟩ := hres
                    have hpn := PD.out.new
                    have hrn := RD.out.new
                    have B9 := Lib.hid (k9.obj (fun e => by omega) BD.out)
                    have P9 := Lib.hid (k9.obj (fun e => by omega) OPD.out)
                    have H9 := HD.out.chg k9 (fun x hx e => by omega)
                    have R9 := RD.out.chg k9 RD.out.ne (fun k hk e => (RD.out.low k hk).2.2 e)
                    have C2d := Lib.hid (C2.out w9 R9 H9)
                    clear C1d C1 C2 H9 R9 k9
                    go_wp2_with fail
                    refine ⟨⟨cell_of B9.out rfl, cell_of B9.out rfl, cell_of P9.out rfl, cell_of P9.out rfl⟩, ?_⟩
                    refine plan_ef rfl ?_
                    go_wp2_with fail
                    (with_reducible refine (C2d.out).mono ?_)
                    rintro e w10 hres
                    have FIN := Lib.hid (sw_act (op := op) PD.out RD.out LOW.out hbp hbr hp8 hw2 NQ.out hq BD.out OD.out KD.out OK2.out Z2.out RES1.out hres)
                    obtain ⟨rfl, _, k10⟩ := hres
                    have B10 := Lib.hid (k10.obj (fun e => by omega) B9.out)
                    have P10 := Lib.hid (k10.obj (fun e => by omega) P9.out)
                    clear C2d B9 P9 RES1 k10 PD RD BD OD KD OPD HD
                    go_wp2_with fail
                    refine ⟨⟨cell_of B10.out rfl, cell_of B10.out rfl, cell_of P10.out rfl, cell_of P10.out rfl⟩, ?_⟩
                    refine plan_rd (A := ?A2b) ?h3b ?h4b
                    case h3b =>
                      rintro w' ⟨y0, y1, y2, y3⟩ K hK
                      simp only [opsAt, List.filterMap_cons, List.filterMap_nil, List.getElem?_toArray, List.getElem?_cons_succ, List.getElem?_cons_zero]
                      refine WS.out ?_
                      repeat (refine ws_step (fun K hK => ?_); go_simp; refine hK _ ?_; clear hK K)
                      refine ws_nil ?_
                      exact hK
                    refine plan_nil ?_
                    go_wp2
                    go_meet
                    case rel => exact ⟨rfl, FIN.out⟩
              case rest =>
                obtain ⟨rfl, L2, ver2, G1', G2', hsw⟩ := hcut
                have SW := Lib.hid hsw
                obtain ⟨g, hg⟩ : ∃ g, 0 < s.length → a7 = some ⟨g, 0, none⟩ ∧ ∃ cs, wc.heap[g]? = some (.cells cs 40 (0, 0)) ∧ s.length ≤ cs.size := by
                  by_cases h : 0 < s.length
                  · obtain ⟨g, cs, h1, _, h2, h3⟩ := own_row1 hsw.o h
                    exact ⟨g, fun _ => ⟨h1, cs, h2, h3⟩⟩
                  · exact ⟨0, fun q => (h q).elim⟩
                have HG := Lib.hid hg
                have z1 : wc.cell? ⟨q, 1, none⟩ = some (.slice a7 s.length c7) := cell_of hsw.q rfl
                clear hg hsw PQ RQ BQ OQ NQ OP HQ KQ ZZ OKL LOW
                go_wp2
                go_loopw [95] (fun iv wr => ∃ j : Nat, j ≤ s.length ∧ iv = .int .i64 j ∧ Hid (Chg (fun k => (Value.slice a7 s.length c7).ownBlock = some k) wc wr ∧ (0 < s.length → ∃ cs, wr.heap[g]? = some (.cells cs 40 (0, 0)) ∧ s.length ≤ cs.size))) (fun iv _ => s.length - (intOf iv).toNat)
                case atStart => exact ⟨0, by omega, rfl, Lib.hid ⟨Chg.refl _ _, fun h => (HG.out h).2⟩⟩
                case round =>
                  obtain ⟨j, hj, rfl, HJ⟩ := hrel
                  have bq := HJ.out.1.obj (fun e => (SW.out.ap _ e).2.2.2.2 rfl) SW.out.q
                  have y1 : wr.cell? ⟨q, 1, none⟩ = some (.slice a7 s.length c7) := cell_of bq rfl
                  clear bq z1
                  by_cases hlt : j < s.length
                  · obtain ⟨ea, _⟩ := HG.out (by omega)
                    obtain ⟨cs, hcs, hn⟩ := HJ.out.2 (by omega)
                    obtain ⟨old, c0⟩ := cells_cell hcs (o := j) (by omega)
                    have f0 := frozen_of (o := j) hcs
                    have NX := Lib.hid (show Chg (fun k => (Value.slice a7 s.length c7).ownBlock = some k) wc (wr.setCell ⟨g, j, none⟩ (.string ⟨#[63]⟩)) ∧ (0 < s.length → ∃ cs, (wr.setCell ⟨g, j, none⟩ (.string ⟨#[63]⟩)).heap[g]? = some (.cells cs 40 (0, 0)) ∧ s.length ≤ cs.size) from
                      ⟨HJ.out.1.trans ((chg_cell wr g j _).mono (fun k _ e => by rw [e, ea]; rfl)), fun _ => by
                        obtain ⟨cs', h1, h2⟩ := cells_set hcs j (.string ⟨#[63]⟩)
                        exact ⟨cs', h1, by omega⟩⟩)
                    subst ea
                    clear hcs HJ
                    go_wp2
                    go_roundw
                    case rel => exact ⟨j + 1, by omega, by go_num, NX⟩
                    case measure => simp [intOf]; omega
                  · obtain rfl : j = s.length := by omega
                    have kw := HJ.out.1
                    have LW := Lib.hid (SW.out.l.chg kw (fun e => (SW.out.ap _ e).2.2.1 rfl) (fun k hk e => (SW.out.ap _ e).1 hk))
                    have RW := Lib.hid (SW.out.r.chg kw (fun e => (SW.out.ap _ e).2.2.2.1 rfl) (fun k hk e => (SW.out.ap _ e).2.1 hk))
                    have KW := Lib.hid (SW.out.c.next kw (fun x hx e => by have := (SW.out.o.lt x e).1; omega))
                    have AL := Lib.hid (lall_any wr b1 _ L2 ver2 G1' LW.out.lst LW.out.ok)
                    have SZ2 := Lib.hid SW.out.sz
                    have hver2 := SW.out.ver
                    have LOW := Lib.hid (show (∀ k, G1' k → k < wr.heap.size) ∧ (∀ k, G2' k → k < wr.heap.size) from ⟨fun k hk => (LW.out.low k hk).2.1, fun k hk => (RW.out.low k hk).2.1⟩)
                    have hlb := LW.out.lt
                    have hrb := RW.out.lt
                    have hwb : w.heap.size ≤ wr.heap.size := KW.out.size
                    clear kw HJ SW HG y1
                    go_wp2_with fail
                    (with_reducible refine (AL.out).mono ?_)
                    rintro e w11 ⟨va, E, rfl, ho, k11⟩
                    generalize wr.heap.size = base at ho hlb hrb hwb LOW
                    have L11 := Lib.hid (LW.out.chg k11 (fun e => e) (fun _ _ e => e))
                    have R11 := Lib.hid (RW.out.chg k11 (fun e => e) (fun _ _ e => e))
                    have K11 := Lib.hid (KW.out.trans k11)
                    have HO := Lib.hid ho
                    have hel := ho.len
                    obtain ⟨a9, c9, rfl⟩ : ∃ a c, va = .slice a L2.length c := by
                      obtain ⟨a, c, e⟩ := own_shape ho.row
                      rw [hel] at e
                      exact ⟨a, c, e⟩
                    have hL12 : L2.length ≤ 12 := LW.out.ok.few
                    have EA := Lib.hid (ho.up (fun x hx s hs => by have := SZ2.out x hx s hs; unfold maxLen; omega))
                    obtain ⟨lr, cr, r1, r2, _, hcr⟩ := R11.out.lst.open
                    have SAM := Lib.hid (fun w1 (k : Chg (fun _ => False) w11 w1) => same_any w1 _ _ L2 L2 _ _ (EA.out.chg k (fun _ _ e => e)) (r2.chg k (fun _ _ e => e)))
                    rw [show sameL L2 L2 = true from decide_eq_true rfl] at SAM
                    have RB := Lib.hid r1
                    have RE := Lib.hid r2
                    unfold maxLen at hcr
                    clear ho k11 r1 r2 LW RW KW AL
                    have y0 : w11.cell? ⟨b2, 0, none⟩ = some (.slice lr L2.length cr) := cell_of RB.out rfl
                    have y1 : w11.cell? ⟨b2, 1, none⟩ = some (.int .i64 (ver2 : Int)) := cell_of RB.out rfl
                    go_wp2_with fail
                    refine wp_region_plan (N := 146) [.rd [0, 1, 2, 3, 4], .ef 5, .rd [6, 7, 8, 10, 11, 12, 13], .ef 9, .rd [14, 15]] (fun W => W.cell? ⟨b2, 0, none⟩ = some (.slice lr L2.length cr) ∧ W.cell? ⟨b2, 1, none⟩ = some (.int .i64 (ver2 : Int))) (by kernel_rfl) (by kernel_rfl) (by kernel_rfl) (by kernel_rfl) (Nat.le_of_ble_eq_true rfl) ⟨y0, y1⟩ ?_
                    refine plan_rd (A := ?A1r) ?h1r ?h2r
                    case h1r =>
                      rintro w' ⟨y0, y1⟩ K hK
                      simp only [opsAt, List.filterMap_cons, List.filterMap_nil, List.getElem?_toArray, List.getElem?_cons_succ, List.getElem?_cons_zero]
                      refine WS.out ?_
                      repeat (refine ws_step (fun K hK => ?_); go_simp; refine hK _ ?_; clear hK K)
                      refine ws_nil ?_
                      exact hK
                    have D := Lib.hid (chg_drew (fun _ => False) w11)
                    have S1 := Lib.hid (SAM.out w11.drew D.out)
                    have LD := Lib.hid (L11.out.chg D.out (fun e => e) (fun _ _ e => e))
                    have RD := Lib.hid (R11.out.chg D.out (fun e => e) (fun _ _ e => e))
                    have BD := Lib.hid (D.out.obj (fun e => e) RB.out)
                    have KD := Lib.hid (K11.out.trans D.out)
                    have OD := Lib.hid (HO.out.chg D.out (fun _ _ _ e => e))
                    clear D y0 y1 SAM L11 R11 RB K11 HO RE EA
                    generalize w11.drew = wd at *
                    refine plan_ef rfl ?_
                    go_wp2_with fail
                    (with_reducible refine (S1.out).mono ?_)
                    rintro e w12 ⟨rfl, k12⟩
                    have L12 := Lib.hid (LD.out.chg k12 (fun e => e) (fun _ _ e => e))
                    have R12 := Lib.hid (RD.out.chg k12 (fun e => e) (fun _ _ e => e))
                    have B12 := Lib.hid (k12.obj (fun e => e) BD.out)
                    have K12 := Lib.hid (KD.out.trans k12)
                    have O12 := Lib.hid (OD.out.chg k12 (fun _ _ _ e => e))
                    have V12 := Lib.hid (version_any w12 b1 _ L2 ver2 G1' L12.out.lst)
                    clear k12 LD RD BD KD OD S1
                    go_wp2_with fail
                    refine ⟨⟨cell_of B12.out rfl, cell_of B12.out rfl⟩, ?_⟩
                    refine plan_rd (A := ?A2r) ?h3r ?h4r
                    case h3r =>
                      rintro w' ⟨y0, y1⟩ K hK
                      simp only [opsAt, List.filterMap_cons, List.filterMap_nil, List.getElem?_toArray, List.getElem?_cons_succ, List.getElem?_cons_zero]
                      refine WS.out ?_
                      repeat (refine ws_step (fun K hK => ?_); go_simp; refine hK _ ?_; clear hK K)
                      refine ws_nil ?_
                      exact hK
                    refine plan_ef rfl ?_
                    go_wp2_with fail
                    (with_reducible refine (V12.out).mono ?_)
                    rintro e w13 ⟨rfl, rfl⟩
                    clear V12
                    go_wp2_with fail
                    refine ⟨⟨cell_of B12.out rfl, cell_of B12.out rfl⟩, ?_⟩
                    refine plan_rd (A := ?A3r) ?h5r ?h6r
                    case h5r =>
                      rintro w' ⟨y0, y1⟩ K hK
                      simp only [opsAt, List.filterMap_cons, List.filterMap_nil, List.getElem?_toArray, List.getElem?_cons_succ, List.getElem?_cons_zero]
                      refine WS.out ?_
                      repeat (refine ws_step (fun K hK => ?_); go_simp; refine hK _ ?_; clear hK K)
                      refine ws_nil ?_
                      exact hK
                    refine plan_nil ?_
                    have APS := Lib.hid (And.intro O12.out.ap O12.out.apr)
                    have LS := Lib.hid (lastS_start O12.out)
                    clear O12 B12
                    go_wp2
                    go_loopw [123] (fun iv wl => ∃ j : Nat, j ≤ L2.length ∧ iv = .int .i64 j ∧ Hid (LastS base j (.slice a9 L2.length c9) E L2 w12 wl)) (fun iv _ => L2.length - (intOf iv).toNat)
                    case atStart => exact ⟨0, by omega, rfl, LS⟩
                    case round =>
                      obtain ⟨j, hj, rfl, HJ⟩ := hrel
                      have LJ := Lib.hid (L12.out.chg HJ.out.c (fun e => by omega) (fun k hk e => by have := LOW.out.1 k hk; omega))
                      have RJ := Lib.hid (R12.out.chg HJ.out.c (fun e => by omega) (fun k hk e => by have := LOW.out.2 k hk; omega))
                      clear LS
                      by_cases hlt : j < L2.length
                      · obtain ⟨x, hx⟩ : ∃ x, L2[j]? = some x := ⟨_, List.getElem?_eq_getElem hlt⟩
                        obtain ⟨en, hen⟩ : ∃ e, E[j]? = some e := ⟨_, List.getElem?_eq_getElem (by omega)⟩
                        obtain ⟨en1, hen2⟩ := HJ.out.ent j en x (Nat.le_refl _) hen hx
                        obtain ⟨ga, e1, d0, d1⟩ := ecells_own HJ.out.row hen
                        subst e1
                        obtain ⟨lr2, cr2, q1, q2, _, hcr2⟩ := RJ.out.lst.open
                        obtain ⟨gr, og, sb, sd, rfl, _, d2, d3, hsb⟩ := q2.get hx
                        obtain ⟨sq, se, e2⟩ := own_shape hen2
                        obtain ⟨eo, ev⟩ := en
                        simp only at en1 hen2 d0 d1 e2
                        subst en1 e2
                        have hx1 : 1 ≤ x.2.length := (setB_len (entB_iff.1 (LJ.out.ok.may x (List.mem_of_getElem? hx))).2).1
                        obtain ⟨gs, cs, e3, hbg, hcs, hcn⟩ := own_row1 hen2 hx1
                        subst e3
                        have ES := Lib.hid (fun w1 (k : Chg (fun _ => False) wr w1) => esame_any w1 x x _ sb x.2.length se x.2.length sd _ _ ((setAt_own hen2 (fun s hs => by have := SZ2.out x (List.mem_of_getElem? hx) s hs; unfold maxLen; omega)).at_.chg k (fun _ _ e => e)) (hsb.at_.chg k (fun _ _ e => e)))
                        rw [show eqB x x = true from decide_eq_true rfl] at ES
                        have NX := Lib.hid (fun w1 v (k : Chg (fun _ => False) wr w1) => HJ.out.next (o := 0) (v := v) APS.out.1 APS.out.2 hen k rfl hbg)
                        have d4 : wr.cell? ⟨b2, 0, none⟩ = some (.slice (some ⟨gr, og, none⟩) L2.length cr2) := cell_of q1 rfl
                        have HCS := Lib.hid hcs
                        unfold maxLen at hcr2
                        clear q1 q2 hen2 hen hcs hsb HJ LJ RJ hx
                        obtain ⟨oq, t⟩ := x
                        simp only at d0 d1 d2 d3 ES hx1 NX hcn
                        go_wp2_with fail
                        refine wp_region_plan (N := 146) [.rd [0, 1, 2, 3, 4, 5, 6, 7, 8, 9, 10], .ef 11, .rd [12]] (fun W => W.cell? ⟨ga, j * 2, none⟩ = some (.int .i64 oq) ∧ W.cell? ⟨ga, j * 2 + 1, none⟩ = some (.slice (some ⟨gs, 0, none⟩) t.length se) ∧ W.cell? ⟨b2, 0, none⟩ = some (.slice (some ⟨gr, og, none⟩) L2.length cr2) ∧ W.cell? ⟨gr, og + j * 2, none⟩ = some (.int .i64 oq) ∧ W.cell? ⟨gr, og + j * 2 + 1, none⟩ = some (.slice sb t.length sd)) (by kernel_rfl) (by kernel_rfl) (by kernel_rfl) (by kernel_rfl) (Nat.le_of_ble_eq_true rfl) ⟨d0, d1, d4, d2, d3⟩ ?_
                        refine plan_rd (A := ?A4r) ?h7r ?h8r
                        case h7r =>
                          rintro w' ⟨y0, y1, y2, y3, y4⟩ K hK
                          simp only [opsAt, List.filterMap_cons, List.filterMap_nil, List.getElem?_toArray, List.getElem?_cons_succ, List.getElem?_cons_zero]
                          refine WS.out ?_
                          repeat (refine ws_step (fun K hK => ?_); go_simp; refine hK _ ?_; clear hK K)
                          refine ws_nil ?_
                          exact hK
                        have D := Lib.hid (chg_drew (fun _ => False) wr)
                        have ES1 := Lib.hid (ES.out wr.drew D.out)
                        have e0 := cell_chg D.out (fun e => e) d0
                        have e1 := cell_chg D.out (fun e => e) d1
                        have e2 := cell_chg D.out (fun e => e) d2
                        have e3 := cell_chg D.out (fun e => e) d3
                        have e4 := cell_chg D.out (fun e => e) d4
                        have HD := Lib.hid (D.out.obj (fun e => e) HCS.out)
                        have NXD := Lib.hid (fun w1 v (k : Chg (fun _ => False) wr.drew w1) => NX.out w1 v (D.out.trans k))
                        clear D d0 d1 d2 d3 d4 ES HCS NX
                        generalize wr.drew = wd at *
                        refine plan_ef rfl ?_
                        go_wp2_with fail
                        (with_reducible refine (ES1.out).mono ?_)
                        rintro e w14 ⟨rfl, k14⟩
                        have f0 := cell_chg k14 (fun e => e) e0
                        have f1 := cell_chg k14 (fun e => e) e1
                        have f2 := cell_chg k14 (fun e => e) e2
                        have f3 := cell_chg k14 (fun e => e) e3
                        have f4 := cell_chg k14 (fun e => e) e4
                        have H14 := Lib.hid (k14.obj (fun e => e) HD.out)
                        have N14 := Lib.hid (NXD.out w14 (.string ⟨#[63]⟩) k14)
                        clear k14 e0 e1 e2 e3 e4 HD NXD ES1
                        go_wp2_with fail
                        refine ⟨⟨f0, f1, f4, f2, f3⟩, ?_⟩
                        refine plan_rd (A := ?A5r) ?h9r ?h10r
                        case h9r =>
                          rintro w' ⟨y0, y1, y2, y3, y4⟩ K hK
                          simp only [opsAt, List.filterMap_cons, List.filterMap_nil, List.getElem?_toArray, List.getElem?_cons_succ, List.getElem?_cons_zero]
                          refine WS.out ?_
                          repeat (refine ws_step (fun K hK => ?_); go_simp; refine hK _ ?_; clear hK K)
                          refine ws_nil ?_
                          exact hK
                        refine plan_nil ?_
                        obtain ⟨old, c0⟩ := cells_cell H14.out (o := 0) (by omega)
                        have z0 := frozen_of (o := 0) H14.out
                        clear f0 f2 f3 f4 H14
                        go_wp2
                        go_roundw
                        case rel => exact ⟨j + 1, by omega, by go_num, N14⟩
                        case measure => simp [intOf]; omega
                      · obtain rfl : j = L2.length := by omega
                        have KJ := Lib.hid (K12.out.next HJ.out.c (fun x hx e => by omega))
                        clear HJ K12 L12 R12 APS LOW
                        go_wp2
                        go_roundw
                        case rel => exact ⟨k + 1, ver2, L2, by omega, by omega, by omega, by go_num, Lib.hid ⟨⟨_, LJ.out⟩, ⟨_, RJ.out⟩, SZ2.out, KJ.out⟩⟩
                        case measure => simp [intOf]; omega
        · have KF := Lib.hid HI.out.2.2.2
          have P3 : (decide ((k : Int) < (A.length : Int)) = true ∧ decide (k < A.length) = true ∧ decide ((k : Int) < 60) = false) ∨ (decide ((k : Int) < (A.length : Int)) = false ∧ decide (k < A.length) = false) := by
            by_cases q : k < A.length
            · exact .inl ⟨decide_eq_true (by omega), decide_eq_true q, decide_eq_false (by omega)⟩
            · exact .inr ⟨decide_eq_false (by omega), decide_eq_false q⟩
          clear hlt HI
          rcases P3 with ⟨q1, q2, q3⟩ | ⟨q1, q2⟩
          all_goals
            go_wp2
            go_ret
            exact ⟨rfl, KF.out⟩
    · have H0 := Lib.hid h0
      clear h0
      go_wp2_with fail
      (with_reducible refine (N1.out).mono ?_)
      rintro e w5 ⟨_, hq, k5⟩
      have e5 := hq H0.out
      subst e5
      have K5 := Lib.hid (K2.out.trans k5)
      have N6 := Lib.hid (N2.out w5 K5.out)
      clear hq k5 N1 N2
      go_wp2_with fail
      (with_reducible refine (N6.out).mono ?_)
      rintro e w7 ⟨_, hq, k7⟩
      have e7 := hq H0.out
      subst e7
      have K7 := Lib.hid (K5.out.trans k7)
      clear hq k7 N6 K5
      go_wp2
      go_loopw [9] (fun iv wr => iv = .int .i64 0 ∧ Hid (Chg (fun _ => False) w wr)) (fun _ _ => 0)
      case atStart => exact ⟨rfl, K7⟩
      case round =>
        obtain ⟨rfl, HI⟩ := hrel
        by_cases hA0 : 0 < A.length
        · have g1 : decide (0 < (A.length : Int)) = true := decide_eq_true (by omega)
          go_wp2
          go_ret
          exact ⟨rfl, HI.out⟩
        · have g1 : decide (0 < (A.length : Int)) = false := decide_eq_false (by omega)
          go_wp2
          go_ret
          exact ⟨rfl, HI.out⟩
end Go.Proofs.Ytbjdndialiddpaa
