/-
  Package decide: reaches, add.
-/
import Derived.Test.YthdfplafihmejaaGreatZcVDec
import Derived.Test.YthdfplafihmejaaGreatZcQMake
namespace Go.Proofs.YthdfplafihmejaaGreat
open Go.RowKit Go.Maps
theorem zgK (w : World) (d : zeW) (va : Option Addr) (vc : Nat) (x : ByteArray) (b : Int) (hx : x.size <= maxLen) (hr : d.short = false -> zeX w (.slice va d.rules.length vc) d.rules x ∧ zQ d.rules x b = 0) :
  Calls Tryz.prog 92 #[.agg #[.int .i64 d.ans, .int .i64 d.entry, .bool d.short, .slice va d.rules.length vc], .string x, .int .i64 b] w (zk0 w 0 (zaY d b x)) := by
 obtain ⟨ans, en, short, rules⟩ := d;simp only at hr ⊢;have k0 := zh (fun _ => False) w (.cells #[.int .i64 ans, .int .i64 en, .bool short, .slice va rules.length vc] 127);cases short with
 | true =>
  have L := zb (show zaY ⟨ans, en, true, rules⟩ b x = [x] from if_pos rfl);have HX := zb hx;clear hr hx;go_enter Tryz.func92, Tryz.ntmps92;go_wp2;go_ret2;have k1 := k0.trans (zh (fun _ => False) _ (.cells #[.string x] 57));have o1 := zf (w.alloc (.cells #[.int .i64 ans, .int .i64 en, .bool true, .slice va rules.length vc] 127)) (.cells #[.string x] 57);rw [L.out];rw [World.size_alloc] at o1;refine ⟨_, rfl, ⟨_, _, rfl, by simp [maxLen], fun j u hj => ?_⟩, k1⟩;cases j with
  | zero =>
   cases hj;exact ⟨_, 0, rfl, ⟨by omega, by rw [World.size_alloc, World.size_alloc]; omega⟩, ze o1 rfl, HX.out⟩
  | succ j => simp at hj
 | false =>
  obtain ⟨hA, h0⟩ := hr rfl;have AT := zb (zf3 (b := b) (hA.chg k0));have L := zb (show zaY ⟨ans, en, false, rules⟩ b x = zbL rules x b from if_neg (by simp));rw [h0] at AT;have K0 := zb k0;rw [L.out];clear hr hx hA h0 k0 L;go_enter Tryz.func92, Tryz.ntmps92;go_wp2_with fail;(with_reducible refine AT.out.mono ?_);rintro e w2 ⟨av, rfl, hw, k2⟩;have hs := K0.out.size;obtain ⟨a1, a2, rfl, _, _⟩ := id hw;have HW := zb hw;clear hw AT;go_wp2;go_ret2;exact ⟨_, rfl, HW.out.imp (fun j hj => ⟨Nat.le_trans hs hj.1, hj.2⟩), K0.out.trans k2⟩
theorem zgM (w : World) (G : Nat -> Prop) : yg w (.slice none 0 0) (.slice none 0 0) G ⟨[], []⟩ :=
 ⟨zbp _ _, ⟨⟨none, 0, rfl, by simp, fun j x hj => by simp at hj⟩, fun n c e => by cases e; exact ⟨rfl, rfl⟩⟩⟩
def Xx (Q : List (zS × Value × Value)) : List Value := Q.flatMap fun z => [z.2.1, z.2.2]
theorem zgs (Q : List (zS × Value × Value)) (z : zS × Value × Value) : Xx (Q ++ [z]) = Xx Q ++ [z.2.1, z.2.2] := by unfold Xx; rw [List.flatMap_append]; simp
theorem Tryz.elemProof : Zl Tryz.prog 83 2 48 := Zb (z := .agg #[.slice none 0 0, .slice none 0 0]) (by kernel_rfl) rfl (by decide)
structure zjl (base bx : Nat) (W : World) (d : zeW) (va : Option Addr) (vc : Nat) (en : Int) (tv pv : Value) (T : List Int) (Q : List (zS × Value × Value)) (G : Nat -> Prop) : Prop where
 obj : W.heap[bx]? = some (.cells #[.int .i64 d.ans, .int .i64 d.entry, .bool d.short, .slice va d.rules.length vc, .int .i64 en, tv, pv] 131 (0, 0))
 tos : W.ownsRow base 3 1 tv T.length (T.map (Value.int .i64))
 prf : W.ownsRow base 83 2 pv Q.length (Xx Q)
 ent : ∀ z ∈ Q, yg W z.2.1 z.2.2 G z.1
 gap : ∀ k, G k -> base <= k ∧ k < W.heap.size ∧ k ≠ bx ∧ tv.ownBlock ≠ some k ∧ pv.ownBlock ≠ some k
section
variable {base bx : Nat} {w w' : World} {d : zeW} {va : Option Addr} {vc : Nat} {en : Int} {tv pv tv' pv' : Value} {T : List Int} {Q : List (zS × Value × Value)} {G : Nat -> Prop}
theorem zjl.chg (h : zjl base bx w d va vc en tv pv T Q G) (k : Chg (fun _ => False) w w') : zjl base bx w' d va vc en tv pv T Q G :=
 ⟨k.obj (fun e => e) h.obj, zm h.tos k (fun _ _ e => e), zm h.prf k (fun _ _ e => e), fun z hz => (h.ent z hz).chg k (fun _ _ e => e), fun j hj => by
  obtain ⟨q1, q2, q3⟩ := h.gap j hj;exact ⟨q1, Nat.lt_of_lt_of_le q2 k.size, q3⟩⟩
theorem zjl.pushT {t : Int} (h : zjl base bx w d va vc en tv pv T Q G) (hg : w.grownBy w' tv.ownBlock) (ho : w'.ownsRow base 3 1 tv' (T.length + 1) (T.map (Value.int .i64) ++ [.int .i64 t])) (sn : Yp w tv tv') :
  zjl base bx (w'.setCell ⟨bx, 5, none⟩ tv') d va vc en tv' pv (T ++ [t]) Q G ∧ w'.heap[bx]? = some (.cells #[.int .i64 d.ans, .int .i64 d.entry, .bool d.short, .slice va d.rules.length vc, .int .i64 en, tv, pv] 131 (0, 0)) ∧ Chg (fun k => k = bx ∨ tv.ownBlock = some k) w (w'.setCell ⟨bx, 5, none⟩ tv') := by
 have kg := Chg.of_grown hg;have kc := zE w' bx 5 tv'
 have nb : ¬ tv.ownBlock = some bx := fun e => by
  obtain ⟨cs, q⟩ := zz h.tos e;exact Zd q h.obj (by decide) rfl
 have box2 := kg.obj nb h.obj
 have np : ∀ k, pv.ownBlock = some k -> ¬ tv.ownBlock = some k ∧ ¬ k = bx := fun k hk => by
  obtain ⟨cs, q⟩ := zz h.prf hk;refine ⟨fun e => ?_, fun e => ?_⟩
  · obtain ⟨ds, q2⟩ := zz h.tos e
    exact Zd q q2 (by decide) rfl
  · exact Zd q h.obj (by decide) e
 have nt : ∀ k, tv'.ownBlock = some k -> ¬ k = bx := fun k hk e => by
  obtain ⟨cs, q⟩ := zz ho hk;exact Zd q box2 (by decide) e
 refine ⟨⟨zr (o := 5) box2 tv', ?_, zm (zm h.prf kg (fun k hk e => (np k hk).1 e)) kc (fun k hk e => (np k hk).2 e), fun z hz => ((h.ent z hz).chg kg (fun k hk e => (h.gap k hk).2.2.2.1 e)).chg kc (fun k hk e => (h.gap k hk).2.2.1 e), fun k hk => ?_⟩, box2, (kg.mono (fun k _ e => .inr e)).trans (kc.mono (fun k _ e => .inl e))⟩
 · rw [List.map_append, List.length_append]
   exact zm ho kc (fun k hk e => nt k hk e)
 · obtain ⟨q1, q2, q3, q4, q5⟩ := h.gap k hk
   refine ⟨q1, Nat.lt_of_lt_of_le q2 (Nat.le_trans kg.size kc.size), q3, fun e => ?_, q5⟩;rcases sn with s | s
   · rw [s] at e; exact q4 e
   · have := s k e; omega
theorem zjl.pushP {p : zS} {iv sv : Value} {Gp : Nat -> Prop} (h : zjl base bx w d va vc en tv pv T Q G) (hp : yg w iv sv Gp p) (hG : ∀ k, Gp k -> base <= k ∧ k < w.heap.size ∧ k ≠ bx ∧ tv.ownBlock ≠ some k ∧ pv.ownBlock ≠ some k)
  (hg : w.grownBy w' pv.ownBlock) (ho : w'.ownsRow base 83 2 pv' (Q.length + 1) (Xx Q ++ [iv, sv])) (sn : Yp w pv pv') :
  zjl base bx (w'.setCell ⟨bx, 6, none⟩ pv') d va vc en tv pv' T (Q ++ [(p, iv, sv)]) (fun k => G k ∨ Gp k) ∧ w'.heap[bx]? = some (.cells #[.int .i64 d.ans, .int .i64 d.entry, .bool d.short, .slice va d.rules.length vc, .int .i64 en, tv, pv] 131 (0, 0)) ∧ Chg (fun k => k = bx ∨ pv.ownBlock = some k) w (w'.setCell ⟨bx, 6, none⟩ pv') := by
 have kg := Chg.of_grown hg;have kc := zE w' bx 6 pv'
 have nb : ¬ pv.ownBlock = some bx := fun e => by
  obtain ⟨cs, q⟩ := zz h.prf e;exact Zd q h.obj (by decide) rfl
 have box2 := kg.obj nb h.obj
 have nt : ∀ k, tv.ownBlock = some k -> ¬ pv.ownBlock = some k ∧ ¬ k = bx := fun k hk => by
  obtain ⟨cs, q⟩ := zz h.tos hk;refine ⟨fun e => ?_, fun e => ?_⟩
  · obtain ⟨ds, q2⟩ := zz h.prf e
    exact Zd q q2 (by decide) rfl
  · exact Zd q h.obj (by decide) e
 have np : ∀ k, pv'.ownBlock = some k -> ¬ k = bx := fun k hk e => by
  obtain ⟨cs, q⟩ := zz ho hk;exact Zd q box2 (by decide) e
 have gp : ∀ k, G k ∨ Gp k -> base <= k ∧ k < w.heap.size ∧ k ≠ bx ∧ tv.ownBlock ≠ some k ∧ pv.ownBlock ≠ some k := fun k hk => hk.elim (h.gap k) (hG k);refine ⟨⟨zr (o := 6) box2 pv', zm (zm h.tos kg (fun k hk e => (nt k hk).1 e)) kc (fun k hk e => (nt k hk).2 e), ?_, fun z hz => ?_, fun k hk => ?_⟩, box2, (kg.mono (fun k _ e => .inr e)).trans (kc.mono (fun k _ e => .inl e))⟩
 · rw [zgs, List.length_append]
   exact zm ho kc (fun k hk e => np k hk e)
 · rcases List.mem_append.1 hz with hz | hz
   · exact (((h.ent z hz).up (fun k hk => .inl hk)).chg kg (fun k hk e => (gp k hk).2.2.2.2 e)).chg kc (fun k hk e => (gp k hk).2.2.1 e)
   · rw [List.mem_singleton] at hz
     subst hz;exact ((hp.up (fun k hk => .inr hk)).chg kg (fun k hk e => (gp k hk).2.2.2.2 e)).chg kc (fun k hk e => (gp k hk).2.2.1 e)
 · obtain ⟨q1, q2, q3, q4, q5⟩ := gp k hk
   refine ⟨q1, Nat.lt_of_lt_of_le q2 (Nat.le_trans kg.size kc.size), q3, q4, fun e => ?_⟩;rcases sn with s | s
   · rw [s] at e; exact q5 e
   · have := s k e; omega
end
def znz (base bx : Nat) (w : World) (d : zeW) (va : Option Addr) (vc : Nat) (en : Int) (tv pv : Value) (T : List Int) (Q : List (zS × Value × Value)) (t : Int) (p : zS) (e : Ending) (w' : World) : Prop := e = .returned (.int .i64 0) ∧
 Chg (fun k => k = bx ∨ tv.ownBlock = some k ∨ pv.ownBlock = some k) w w' ∧ ∃ tv' pv' G' iv sv, zjl base bx w' d va vc en tv' pv' (T ++ [t]) (Q ++ [(p, iv, sv)]) G'
set_option maxHeartbeats 8000000 in
set_option maxRecDepth 100000 in
theorem zmi (base bx : Nat) (w : World) (d : zeW) (va : Option Addr) (vc : Nat) (en : Int) (tv pv : Value) (T : List Int) (Q : List (zS × Value × Value)) (G : Nat -> Prop) (ra : Option Addr) (R : List zA) (rc : Nat) (v cv : Value) (P : List (zn × Value)) (c : List ByteArray) (G0 Gc : Nat -> Prop) (x : ByteArray) (b : Int)
  (h : zjl base bx w d va vc en tv pv T Q G) (hA : Yq w ra R rc v P G0) (hF : ∀ c ∈ zj P, c.fr.length <= 1000) (hc : zu w cv Gc c) (hx : x.size <= maxLen) (hb : base <= w.heap.size) (hT : T.length <= 1000) (hQ : Q.length <= 1000)
  (hto : toW d b c x < c.length) (hr : d.short = false -> (zM w (.slice va d.rules.length vc) (· < w.heap.size) d.rules ∧ Few d.rules) ∧ zQ d.rules x b = 0) (hmk : d.short = false -> (XF R (zj P) x (c.getD (toW d b c x) ⟨#[]⟩) b).1 = 0) :
  Calls Tryz.prog 62 #[.pointer (some ⟨bx, 0, none⟩), .slice ra R.length rc, v, .string x, cv, .int .i64 b] w (znz base bx w d va vc en tv pv T Q (toW d b c x) (zjW R (zj P) d b c x)) := by
 have RE := zb (zgK w d va vc x b hx (fun e => ⟨⟨(hr e).1.1, (hr e).1.2, hx⟩, (hr e).2⟩));have HE := zb h;have HC := zb hc;have HAA := zb hA;have TO := zb hto;have IX := zb (fun W (k : Chg (fun _ => False) w W) av p G1 (hl : zu W av G1 (zaY d b x)) hp => ziY W cv av c (zaY d b x) p Gc G1 (hc.chg k (fun _ _ e => e)) hl hp hto);have EQT := zb (show zfi c (zaY d b x) = toW d b c x from rfl);have MK := zb (fun W (k : Chg (fun _ => False) w W) (u : ByteArray) (hu : u.size <= maxLen) => zlJ W ra R rc v P G0 b x u (hA.chg k) hx hu hF);have MZ := zb hmk;have PW := zb (show zjW R (zj P) d b c x = if d.short = true then ⟨[], []⟩ else (XF R (zj P) x (c.getD (toW d b c x) ⟨#[]⟩) b).2 from rfl);obtain ⟨la, lcap, rfl, _, _⟩ := hA.certs;obtain ⟨ca, ccap, rfl, hcl, _⟩ := id hc;unfold maxLen at hcl;have c0 := ze (o := 0) h.obj rfl;have c1 := ze (o := 1) h.obj rfl;have c2 := ze (o := 2) h.obj rfl;have c3 := ze (o := 3) h.obj rfl;obtain ⟨u, hu⟩ : ∃ u, c[toW d b c x]? = some u := ⟨_, List.getElem?_eq_getElem hto⟩;have HU := zb hu;have GU := zb (show c.getD (toW d b c x) ⟨#[]⟩ = u from by rw [List.getD_eq_getElem?_getD, hu]; rfl);rw [GU.out] at MZ PW;generalize zjW R (zj P) d b c x = pw at *;generalize toW d b c x = t at *;generalize zaY d b x = ld at *;generalize hme : XF R (zj P) x u b = me at *;have HME := zb hme;clear hA hc hx hto hr hmk hu hme h;go_enter Tryz.func62, Tryz.ntmps62;go_wp2_with fail;clear c0 c1 c2 c3;(with_reducible refine RE.out.mono ?_);rintro e w2 ⟨av, rfl, hav, k2⟩;obtain ⟨aa, ac, rfl, _, _⟩ := id hav;have ka := zh (fun _ => False) w2 (.cells #[.slice aa ld.length ac] 25);have oa := zf w2 (.cells #[.slice aa ld.length ac] 25);have K3 := zb (k2.trans ka);have I3 := IX.out _ K3.out _ _ _ (hav.chg ka (fun _ _ e => e)) oa;rw [EQT.out] at I3;have I3 := zb I3;clear RE hav k2 ka oa IX EQT;go_wp2_with fail;generalize w2.alloc (.cells #[.slice aa ld.length ac] 25) = w3 at *;(with_reducible refine I3.out.mono ?_);rintro e w4 ⟨rfl, rfl⟩;have E3 := zb (HE.out.chg K3.out);have kp := zh (fun _ => False) w3 (.cells #[.slice none 0 0, .slice none 0 0] 83);have OP := zb (zf w3 (.cells #[.slice none 0 0, .slice none 0 0] 83));have KP3 := zb kp;have K4 := zb (K3.out.trans kp);have s2 := ze (o := 2) (kp.obj (fun e => e) E3.out.obj) rfl;have GT0 := zb (show w3.heap.size < (w3.alloc (.cells #[.slice none 0 0, .slice none 0 0] 83)).heap.size from zq OP.out);have PBX := zb (zq E3.out.obj);have HB3 := zb (Nat.le_trans hb K3.out.size);clear I3 kp hb;go_upto_if 40 with fail;generalize w3.alloc (.cells #[.slice none 0 0, .slice none 0 0] 83) = w5 at *;obtain ⟨pb, hpb⟩ : ∃ pb, pb = w3.heap.size := ⟨_, rfl⟩;have HPB := zb hpb;rw [<- hpb] at OP GT0;rw [<- hpb];clear hpb;go_cut [] (fun wc => ∃ iv sv, Hid (wc.heap[pb]? = some (.cells #[iv, sv] 83 (0, 0)) ∧ Chg (fun k => k = pb) w5 wc ∧ yg wc iv sv (fun k => pb < k ∧ k < wc.heap.size) pw))
 case first =>
  clear E3 HE K3 KP3 HB3 PBX HPB hT hQ;obtain ⟨ans, en1, short, rules⟩ := d;simp only at s2 MZ PW;cases short with
  | true =>
   have PE := zb (show pw = ⟨[], []⟩ from by rw [PW.out, if_pos rfl]);go_wp2_with fail;go_meet
   case rel => exact ⟨_, _, zb ⟨OP.out, Chg.refl _ _, by rw [PE.out]; exact zgM _ _⟩⟩
  | false =>
   obtain ⟨m1, m2⟩ := me;have PE := zb (show pw = m2 from by rw [PW.out, if_neg (by decide)]);obtain rfl : m1 = 0 := MZ.out rfl;obtain ⟨_, _, e1, _, hcc⟩ := HC.out.chg K4.out (fun _ _ e => e);cases e1;obtain ⟨g, o, rfl, _, q0, hus⟩ := hcc t u HU.out;have M5 := MK.out w5 K4.out u hus;rw [HME.out] at M5;have M5 := zb M5;have htl : t < c.length := (List.getElem?_eq_some_iff.1 HU.out).1;clear hcc hus MK PW MZ;go_wp2_with fail;clear q0 s2;(with_reducible refine M5.out.mono ?_);rintro e w6 ⟨k6, iv, sv, rfl, hit, hst⟩;have O6 := zb (k6.obj (fun e => e) OP.out);have K6 := zb k6;have HIT := zb hit;have HST := zb hst;have d0 := ze (o := 0) O6.out rfl;have e0 := zk (o := 0) O6.out;have d1 := ze (o := 1) O6.out rfl;have e1 := zk (o := 1) O6.out;obtain ⟨ia, ic, rfl⟩ := hit.shape;obtain ⟨sa, sc, rfl⟩ := zl hst;generalize hn1 : m2.items.length = n1 at *;generalize hn2 : m2.steps.length = n2 at *;have N1 := zb hn1;have N2 := zb hn2;clear M5 k6 hit hst hn1 hn2;go_wp2_with fail;go_meet
   case rel =>
    obtain ⟨W, hW⟩ : ∃ W, W = (w6.setCell ⟨pb, 0, none⟩ (.slice ia n1 ic)).setCell ⟨pb, 1, none⟩ (.slice sa n2 sc) := ⟨_, rfl⟩;obtain ⟨ob, kW⟩ := zjF O6.out _ _ W hW;rw [<- hW];have hsz := kW.size;have hlt := GT0.out;refine ⟨_, _, zb ⟨ob, (K6.out.mono (fun _ _ e => e.elim)).trans kW, ?_⟩⟩;rw [PE.out];refine ⟨(HIT.out.chg kW (fun k hk e => by omega)).up (fun k hk => ⟨by omega, by omega⟩), ?_⟩;have hs2 := HST.out;exact ((zbM (l := m2.steps) (v := .slice sa n2 sc) (base := w5.heap.size) (by rw [N2.out]; exact hs2)).chg kW (fun k hk e => by have := (hs2.lt k hk).1; omega)).up (fun k hk => ⟨by have := (hs2.lt k hk).1; omega, by have := (hs2.lt k hk).2; omega⟩)
 case rest =>
  obtain ⟨iv, sv, HW⟩ := hcut;obtain ⟨hob, hkw, hpr⟩ := HW.out;have KC := zb (KP3.out.next hkw (fun k hk e => by have := HPB.out; omega));have OB := zb hob;have PR := zb hpr;have E5 := zb (E3.out.chg KC.out);have KW := zb ((K3.out.trans KC.out).mono (T := fun k => k = bx ∨ tv.ownBlock = some k ∨ pv.ownBlock = some k) (fun _ _ e => e.elim))
  have GAP := zb (show ∀ k, (pb < k ∧ k < wc.heap.size) -> base <= k ∧ k < wc.heap.size ∧ k ≠ bx ∧ tv.ownBlock ≠ some k ∧ pv.ownBlock ≠ some k from fun k hk => by
   have h1 := HPB.out;have h2 := HB3.out;have h3 := PBX.out;refine ⟨by omega, hk.2, by omega, fun e => ?_, fun e => ?_⟩
   · have := (E3.out.tos.lt k e).2; omega
   · have := (E3.out.prf.lt k e).2; omega)
  have PBN := zb (show pb ≠ bx ∧ tv.ownBlock ≠ some pb ∧ pv.ownBlock ≠ some pb from by
   have h1 := HPB.out;have h3 := PBX.out;refine ⟨by omega, fun e => ?_, fun e => ?_⟩
   · have := (E3.out.tos.lt pb e).2; omega
   · have := (E3.out.prf.lt pb e).2; omega)
  have HBC := zb (show base <= wc.heap.size from Nat.le_trans HB3.out KC.out.size);clear HW hob hkw hpr E3 K3 KP3 K4 s2 HPB HB3 PBX GT0 OP MK MZ PW HME GU HU HC HE me u;obtain ⟨ta, tc, rfl⟩ := zl E5.out.tos;have x5 := ze (o := 5) E5.out.obj rfl;have ka := zh (fun _ => False) wc (.cells #[.int .i64 (t : Int)] 3);have EA := zb (E5.out.chg ka);have hb6 : base <= (wc.alloc (.cells #[.int .i64 (t : Int)] 3)).heap.size := Nat.le_trans HBC.out ka.size;have KA := zb ka;clear ka;go_wp2_with (at_builtin; refine ZT rfl (.tmp 61) (.tmp 63) 36 rfl 3 1 8 Tryz.underlying36 Tryz.elemInt' base (.slice ta T.length tc) T.length (T.map (Value.int .i64)) rfl EA.out.tos _ [.int .i64 (t : Int)] 3 (0, 0) rfl (zf _ _) rfl ?a1 ?a2 ?a3 ?a4 ?a5)
  case a1 => intro u hu; simp at hu; subst hu; rfl
  case a2 => omega
  case a3 => unfold maxLen; omega
  case a4 => exact hb6
  intro v9 w9 o9 g9 sn9;obtain ⟨a9, c9, rfl⟩ := zl o9;obtain ⟨p1, p2, p3⟩ := EA.out.pushT g9 o9 sn9;have E9 := zb p1;have y5 := ze (o := 5) p2 rfl;have f5 := zk (o := 5) p2;have KX := zb ((KA.out.mono (T := fun k => k = bx ∨ (Value.slice ta T.length tc).ownBlock = some k) (fun _ _ e => e.elim)).trans p3)
  have OB9 := zb (KX.out.obj (fun e => by
   rcases e with e | e
   · exact PBN.out.1 e
   · exact PBN.out.2.1 e) OB.out)
  have PR9 := zb (PR.out.chg KX.out (fun k hk e => by
   obtain ⟨_, _, q1, q2, _⟩ := GAP.out k hk;rcases e with e | e
   · exact q1 e
   · exact q2 e))
  have KW9 := zb (KW.out.trans (KX.out.mono (fun k _ e => e.elim .inl (fun e => .inr (.inl e)))))
  have GAP9 := zb (show ∀ k, (pb < k ∧ k < wc.heap.size) -> base <= k ∧ k < (w9.setCell ⟨bx, 5, none⟩ (.slice a9 (T.length + 1) c9)).heap.size ∧ k ≠ bx ∧ (Value.slice a9 (T.length + 1) c9).ownBlock ≠ some k ∧ pv.ownBlock ≠ some k from fun k hk => by
   obtain ⟨q0, q1, q2, q3, q4⟩ := GAP.out k hk;refine ⟨q0, Nat.lt_of_lt_of_le q1 KX.out.size, q2, fun e => ?_, q4⟩;rcases sn9 with s | s
   · rw [s] at e; exact q3 e
   · have h1 := s k e
     have h2 := KA.out.size;omega)
  have PBN9 := zb PBN.out.2.2;have HB9 := zb (show base <= (w9.setCell ⟨bx, 5, none⟩ (.slice a9 (T.length + 1) c9)).heap.size from Nat.le_trans HBC.out KX.out.size);clear p1 p2 p3 o9 g9 sn9 EA KA KX hb6 E5 KW OB PR GAP PBN HBC x5;go_wp2_with fail;clear y5 f5;generalize w9.setCell ⟨bx, 5, none⟩ (.slice a9 (T.length + 1) c9) = wa at *;obtain ⟨qa, qc, rfl⟩ := zl E9.out.prf;have x6 := ze (o := 6) E9.out.obj rfl;have z0 := ze (o := 0) OB9.out rfl;have z1 := ze (o := 1) OB9.out rfl;refine ye (N := 80) [.rd [0, 1, 2, 3, 4, 5, 6], .ef 7, .ef 8, .ef 9, .ef 10, .ef 11, .ef 12] 12 (fun W => W.cell? ⟨bx, 6, none⟩ = some (.slice qa Q.length qc) ∧ W.cell? ⟨pb, 0, none⟩ = some iv ∧ W.cell? ⟨pb, 1, none⟩ = some sv) (by kernel_rfl) (by kernel_rfl) (by kernel_rfl) (by kernel_rfl) (by kernel_rfl) (Nat.le_of_ble_eq_true rfl) ⟨x6, z0, z1⟩ ?_;refine zau (A := ?A1) ?h1 ?h2
  case h1 =>
   rintro w' ⟨y0, y1, y2⟩ K hK;simp only [zT, List.filterMap_cons, List.filterMap_nil, List.getElem?_toArray, List.getElem?_cons_succ, List.getElem?_cons_zero]
   repeat still_step
   refine wpStill_nil ?_;exact hK
  have kd := zK (fun _ => False) wa;have ED := zb (E9.out.chg kd);have OD := zb (kd.obj (fun e => e) OB9.out);have PD := zb (PR9.out.chg kd (fun _ _ e => e));have KD := zb (KW9.out.trans (kd.mono (fun _ _ e => e.elim)))
  have GD := zb (fun k hk => show base <= k ∧ k < wa.drew.heap.size ∧ k ≠ bx ∧ (Value.slice a9 (T.length + 1) c9).ownBlock ≠ some k ∧ (Value.slice qa Q.length qc).ownBlock ≠ some k from by
   obtain ⟨q0, q1, q2⟩ := GAP9.out k hk;exact ⟨q0, Nat.lt_of_lt_of_le q1 kd.size, q2⟩)
  have HBD := zb (Nat.le_trans HB9.out kd.size);clear kd x6 z0 z1 E9 OB9 PR9 KW9 GAP9 HB9;generalize wa.drew = wd at *;refine zR rfl ?_;go_wp2_with fail;have kb := zh (fun _ => False) wd (.cells #[iv, sv] 83);have EB := zb (ED.out.chg kb);have ob := kb.obj (fun e => e) OD.out;have obn := zf wd (.cells #[iv, sv] 83);have PB := zb (PD.out.chg kb (fun _ _ e => e));have KB := zb (KD.out.trans (kb.mono (fun _ _ e => e.elim)))
  have GB := zb (fun k hk => show base <= k ∧ k < (wd.alloc (.cells #[iv, sv] 83)).heap.size ∧ k ≠ bx ∧ (Value.slice a9 (T.length + 1) c9).ownBlock ≠ some k ∧ (Value.slice qa Q.length qc).ownBlock ≠ some k from by
   obtain ⟨q0, q1, q2⟩ := GD.out k hk;exact ⟨q0, Nat.lt_of_lt_of_le q1 kb.size, q2⟩)
  have hbb := Nat.le_trans HBD.out kb.size;have x6 := ze (o := 6) EB.out.obj rfl;have z0 := ze (o := 0) ob rfl;have z1 := ze (o := 1) ob rfl
  first | refine ⟨.inr ⟨x6, z0, z1⟩, ?_⟩ | refine ⟨⟨x6, z0, z1⟩, ?_⟩
  clear kb ED OD PD KD GD x6 z0 z1;obtain ⟨i1, i2, i3⟩ := PB.out.items.shape;obtain ⟨s1, s2, s3⟩ := PB.out.steps.shape;refine zR rfl ?_;refine ZT rfl (.tmp 73) (.tmp 75) 37 rfl 83 2 48 Tryz.underlying37 Tryz.elemProof base (.slice qa Q.length qc) Q.length (Xx Q) rfl EB.out.prf wd.heap.size [iv, sv] 83 (0, 0) rfl obn rfl (by rw [i3, s3]; intro u hu; simp at hu; rcases hu with rfl | rfl <;> rfl) (by omega) (by unfold maxLen; omega) hbb ?_;generalize wd.alloc (.cells #[iv, sv] 83) = wb at *;intro v8 w8 o8 g8 sn8;obtain ⟨a8, c8, rfl⟩ := zl o8;have p0 := (Chg.of_grown g8).obj (fun e => PBN9.out e) ob;obtain ⟨p1, p2, p3⟩ := EB.out.pushP PB.out GB.out g8 o8 sn8;have E8 := zb p1;have x6 := ze (o := 6) p2 rfl;have f6 := zk (o := 6) p2;have K8 := zb (KB.out.trans (p3.mono (fun k _ e => e.elim .inl (fun e => .inr (.inr e)))));have z0 := ze (o := 0) p0 rfl;have z1 := ze (o := 1) p0 rfl;clear p0 p1 p2 p3 o8 g8 sn8 EB KB GB PB hbb ob obn;go_wp2_with fail
  first | refine ⟨.inr ⟨x6, z0, z1⟩, ?_⟩ | refine ⟨⟨x6, z0, z1⟩, ?_⟩
  refine zR rfl ?_;go_wp2_with fail
  first | refine ⟨.inr ⟨x6, z0, z1⟩, ?_⟩ | refine ⟨⟨x6, z0, z1⟩, ?_⟩
  refine zR rfl ?_;go_wp2_with fail
  first | refine ⟨.inr ⟨x6, z0, z1⟩, ?_⟩ | refine ⟨⟨x6, z0, z1⟩, ?_⟩
  refine zR rfl ?_;go_wp2_with fail
  first | refine ⟨.inr ⟨x6, z0, z1⟩, ?_⟩ | refine ⟨⟨x6, z0, z1⟩, ?_⟩
  refine zR rfl ?_;go_wp2_with fail
  first | refine ⟨.inl rfl, YM ?_⟩ | (unfold zdn; refine YM ?_)
  go_wp2;go_ret;exact ⟨rfl, K8.out, _, _, _, _, _, E8.out⟩
end Go.Proofs.YthdfplafihmejaaGreat
