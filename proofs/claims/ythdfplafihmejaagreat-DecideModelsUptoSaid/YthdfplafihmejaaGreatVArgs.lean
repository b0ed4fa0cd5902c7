/-
  What the arguments' readings say: what is asked, small in the whole.
  What the arguments' readings say: a why.
-/
import Derived.Test.YthdfplafihmejaaGreatEArgs
import Derived.Test.YthdfplafihmejaaGreatVLarge
import Derived.Test.YthdfplafihmejaaGreatRows
import Derived.Test.YthdfplafihmejaaGreatQSame
import Derived.Test.YthdfplafihmejaaGreatVExplain
namespace Go.Proofs.YthdfplafihmejaaGreat
open Go.ChangeShapes Go.WideShapes Go.ChangeAt Go.RowKit

theorem bulk_one {H : Type} (d : DataW H) : 1 ≤ Rows.uptoBulk d := by
 cases d with
 | lit l => cases l <;> simp [Rows.uptoBulk]
 | nil => simp [Rows.uptoBulk]
 | ptr d => simp [Rows.uptoBulk]
 | slice elems spare => simp [Rows.uptoBulk]
 | agg parts => simp [Rows.uptoBulk]
 | iface t d => simp [Rows.uptoBulk]
 | map entries => simp [Rows.uptoBulk]
 | held h => simp [Rows.uptoBulk]
theorem bulk_part {H : Type} {d : DataW H} {l : List (DataW H)} (h : d ∈ l) : Rows.uptoBulk d ≤ Rows.uptoBulkAll l := by
 induction l with
 | nil => cases h
 | cons x r ih =>
  simp only [Rows.uptoBulkAll]
  cases List.mem_cons.1 h with
  | inl e => subst e; omega
  | inr e => have := ih e; omega
theorem bulk_len {H : Type} (l : List (DataW H)) : l.length ≤ Rows.uptoBulkAll l := by
 induction l with
 | nil => simp [Rows.uptoBulkAll]
 | cons x r ih => have := bulk_one x; simp only [Rows.uptoBulkAll, List.length_cons]; omega
section
variable {W : World} {H : Type} {enc : TypeId × Value → H} {P : Program}
theorem slice_len {t e : TypeId} {fuel : Nat} {a : Option Addr} {n c : Nat} {x : DataW H × List MemPlace} (ht : P.underlying t = some (.slice e)) (h : DataW.trod enc P W 0 (fun _ => true) true fuel t [.slice a n c] = some x) : n ≤ Rows.uptoBulk x.1 := by
 rcases Deep.open_slice ht h with ⟨hcs, _⟩ | ⟨_, len, cap, m, k, D, Pl, hcs, _, _, _, _, hd, _⟩
 · simp at hcs; omega
 · simp at hcs
   obtain ⟨_, rfl, _⟩ := hcs
   rw [hd]
   simp only [Rows.uptoBulk]
   have := bulk_len ((List.range n).map D)
   rw [List.length_map, List.length_range] at this
   omega
theorem slice_get {t e : TypeId} {fuel : Nat} {g o n c : Nat} {x : DataW H × List MemPlace} (ht : P.underlying t = some (.slice e)) (h : DataW.trod enc P W 0 (fun _ => true) true fuel t [.slice (some ⟨g, o, none⟩) n c] = some x) {j : Nat} (hj : j < n) :
  ∃ k cs y, DataW.trod enc P W 0 (fun _ => true) true k e cs = some y ∧ Rows.uptoBulk y.1 ≤ Rows.uptoBulk x.1 ∧ ∀ i, i < P.cellsOf e → W.cell? ⟨g, o + j * P.cellsOf e + i, none⟩ = cs[i]? := by
 rcases Deep.open_slice ht h with ⟨hcs, _⟩ | ⟨ad, len, cap, m, k, D, Pl, hcs, _, hl, _, hm, hd, hel⟩
 · simp at hcs
 · simp at hcs
   obtain ⟨rfl, rfl, rfl⟩ := hcs
   simp at hm
   obtain ⟨cs, h1, h2⟩ := hel j (by omega)
   refine ⟨k, cs, _, h2, ?_, fun i hi => ?_⟩
   · rw [hd]
     simp only [Rows.uptoBulk]
     have := bulk_part (d := D j) (l := (List.range n).map D) (List.mem_map.2 ⟨j, List.mem_range.2 hj, rfl⟩)
     omega
   · have g := (World.cells?_some h1).2.2 i hi
     simp only [addr_add] at g
     exact g
theorem struct_part {t : TypeId} {fs : Array Field} {fuel : Nat} {cs : List Value} {x : DataW H × List MemPlace} (ht : P.underlying t = some (.struct fs)) (h : DataW.trod enc P W 0 (fun _ => true) true fuel t cs = some x) {i : Nat} {f : Field} (hf : fs[i]? = some f) :
  ∃ k y, DataW.trod enc P W 0 (fun _ => true) true k f.type ((cs.drop f.offset).take (P.cellsOf f.type)) = some y ∧ Rows.uptoBulk y.1 ≤ Rows.uptoBulk x.1 ∧ y.1 ∈ (match x.1 with | .agg l => l | _ => []) := by
 obtain ⟨xs, n, _, rfl, hl, hlen, hp⟩ := DataW.trod_struct ht h
 have hi : i < xs.length := by
  rw [hlen]
  exact (Array.getElem?_eq_some_iff.1 hf).1
 obtain ⟨y, hy⟩ : ∃ y, xs[i]? = some y := ⟨_, List.getElem?_eq_getElem hi⟩
 have hm : y.1 ∈ xs.map (·.1) := List.mem_map.2 ⟨y, List.mem_of_getElem? hy, rfl⟩
 refine ⟨n, y, ?_, ?_, hm⟩
 · rw [hp i f hf]; exact hy
 · simp only [Rows.uptoBulk]
   have := bulk_part hm
   omega
end
theorem drop_one {l : List Value} {i : Nat} {v : Value} (h : l[i]? = some v) : (l.drop i).take 1 = [v] := by
 have hl := (List.getElem?_eq_some_iff.1 h).1
 rw [List.drop_eq_getElem_cons hl, (List.getElem?_eq_some_iff.1 h).2]; rfl
section
variable {W : World} {H : Type} {enc : TypeId × Value → H}
theorem certs_len {a : Option Addr} {n c : Nat} {d : DataW H} {ps : List MemPlace} {G : Nat → Prop} {P : List (BCert × Value)} (h : DataW.Trod enc Tryz.prog W 0 (fun _ => true) true 23 (.slice a n c) d ps) (hP : CertsAt W (.slice a n c) G P) : P.length ≤ Rows.uptoBulk d ∧ ∀ x ∈ certsOf P, x.fr.length ≤ Rows.uptoBulk d := by
 obtain ⟨fuel, hf⟩ := h
 have hf' : DataW.trod enc Tryz.prog W 0 (fun _ => true) true fuel 23 [.slice a n c] = some (d, ps) := hf
 obtain ⟨la, cap, e, _, hc⟩ := hP
 cases e
 refine ⟨slice_len Tryz.underlying23 hf', fun x hx => ?_⟩
 unfold certsOf at hx
 obtain ⟨p, hp, rfl⟩ := List.mem_map.1 hx
 obtain ⟨j, hj⟩ := List.mem_iff_getElem?.1 hp
 obtain ⟨g, o, sa, sc, rfl, _, _, _, _, _, c3, _⟩ := hc j p hj
 obtain ⟨k, cs, y, h1, h2, h3⟩ := slice_get Tryz.underlying23 hf' (List.getElem?_eq_some_iff.1 hj).1
 rw [Tryz.cellsCert] at h3
 have e3 : cs[3]? = some (.slice sa p.1.fr.length sc) := by rw [← h3 3 (by decide)]; exact c3
 obtain ⟨k2, z, z1, z2, _⟩ := struct_part (i := 3) Tryz.underlying64 h1 rfl
 have z1 : DataW.trod enc Tryz.prog W 0 (fun _ => true) true k2 26 ((cs.drop 3).take (Tryz.prog.cellsOf 26)) = some z := z1
 rw [Tryz.cellsSet, drop_one e3] at z1
 have h4 := slice_len Tryz.underlying26 z1
 have h5 : Rows.uptoBulk y.1 ≤ Rows.uptoBulk d := h2
 omega
theorem ents_len {a : Option Addr} {n c : Nat} {d : DataW H} {ps : List MemPlace} {G : Nat → Prop} {L : List BEnt} (h : DataW.Trod enc Tryz.prog W 0 (fun _ => true) true 24 (.slice a n c) d ps) (hL : EntsAt W (.slice a n c) G L) : L.length ≤ Rows.uptoBulk d ∧ ∀ x ∈ L, x.2.length ≤ Rows.uptoBulk d := by
 obtain ⟨fuel, hf⟩ := h
 have hf' : DataW.trod enc Tryz.prog W 0 (fun _ => true) true fuel 24 [.slice a n c] = some (d, ps) := hf
 obtain ⟨la, cap, e, _, _⟩ := hL.shape
 cases e
 refine ⟨slice_len Tryz.underlying24 hf', fun x hx => ?_⟩
 obtain ⟨j, hj⟩ := List.mem_iff_getElem?.1 hx
 obtain ⟨g, o, sa, sc, rfl, _, _, c1, _⟩ := hL.get hj
 obtain ⟨k, cs, y, h1, h2, h3⟩ := slice_get Tryz.underlying24 hf' (List.getElem?_eq_some_iff.1 hj).1
 rw [Tryz.cellsEntry] at h3
 have e1 : cs[1]? = some (.slice sa x.2.length sc) := by rw [← h3 1 (by decide)]; exact c1
 obtain ⟨k2, z, z1, z2, _⟩ := struct_part (i := 1) Tryz.underlying56 h1 rfl
 have z1 : DataW.trod enc Tryz.prog W 0 (fun _ => true) true k2 26 ((cs.drop 1).take (Tryz.prog.cellsOf 26)) = some z := z1
 rw [Tryz.cellsSet, drop_one e1] at z1
 have h4 := slice_len Tryz.underlying26 z1
 have h5 : Rows.uptoBulk y.1 ≤ Rows.uptoBulk d := h2
 omega
theorem is_slice {t e : TypeId} {fuel : Nat} {v : Value} {x : DataW H × List MemPlace} (ht : Tryz.prog.underlying t = some (.slice e)) (h : DataW.trod enc Tryz.prog W 0 (fun _ => true) true fuel t [v] = some x) : ∃ a n c, v = .slice a n c := by
 rcases Deep.open_slice ht h with ⟨hcs, _⟩ | ⟨_, _, _, _, _, _, _, hcs, _⟩
 · simp at hcs; exact ⟨_, _, _, hcs⟩
 · simp at hcs; exact ⟨_, _, _, hcs⟩
structure AskArg (W : World) (v : Value) (ra : Option Addr) (R : List BRul) (rc : Nat) (pv lv cv : Value) (P : List (BCert × Value)) (L : List BEnt) (op : Int) (c : List ByteArray) (b : Int) : Prop where
 val : v = .agg #[.slice ra R.length rc, pv, lv, .int .i64 op, cv, .int .i64 b]
 rules : RulesArg W (.slice ra R.length rc) R
 fit : RulesFit R
 certs : CertsArg W pv P
 cfit : CertsFit P
 ents : EntsAt W lv (· < W.heap.size) L
 set : SetAt W cv (· < W.heap.size) c
 up : Up17 R (certsOf P) L c
theorem Tryz.cellsAsk : Tryz.prog.cellsOf 28 = 6 := by kernel_rfl
theorem Tryz.cellsRules : Tryz.prog.cellsOf 22 = 1 := by kernel_rfl
theorem Tryz.cellsCerts : Tryz.prog.cellsOf 23 = 1 := by kernel_rfl
theorem Tryz.cellsEntries : Tryz.prog.cellsOf 24 = 1 := by kernel_rfl
set_option maxRecDepth 100000 in
theorem askArg_of {cs : Array Value} {d : DataW H} {ps : List MemPlace} (h : DataW.Trod enc Tryz.prog W 0 (fun _ => true) true 28 (.agg cs) d ps) (hb : Rows.uptoBulk d ≤ 1048576) (hw : ∀ x ∈ d.weights Tryz.prog 28, x ≤ reachBytes) :
  ∃ ra R rc pv lv cv P L op c b, AskArg W (.agg cs) ra R rc pv lv cv P L op c b := by
 obtain ⟨fuel, hf⟩ := h
 have hf' : DataW.trod enc Tryz.prog W 0 (fun _ => true) true fuel 28 cs.toList = some (d, ps) := hf
 obtain ⟨xs, n, _, he, hl, hlen, hp⟩ := DataW.trod_struct Tryz.underlying28 hf'
 rw [Tryz.cellsAsk] at hl
 have hcs : ∃ c0 c1 c2 c3 c4 c5, cs = #[c0, c1, c2, c3, c4, c5] := by
  match cs, hl with
  | ⟨[c0, c1, c2, c3, c4, c5]⟩, _ => exact ⟨c0, c1, c2, c3, c4, c5, rfl⟩
 obtain ⟨c0, c1, c2, c3, c4, c5, rfl⟩ := hcs
 match xs, hlen with
 | [y0, y1, y2, y3, y4, y5], _ =>
 have ed : d = .agg [y0.1, y1.1, y2.1, y3.1, y4.1, y5.1] := congrArg Prod.fst he
 subst ed
 have t0 : DataW.trod enc Tryz.prog W 0 (fun _ => true) true n 22 [c0] = some y0 := hp 0 _ rfl
 have t1 : DataW.trod enc Tryz.prog W 0 (fun _ => true) true n 23 [c1] = some y1 := hp 1 _ rfl
 have t2 : DataW.trod enc Tryz.prog W 0 (fun _ => true) true n 24 [c2] = some y2 := hp 2 _ rfl
 have t3 : DataW.trod enc Tryz.prog W 0 (fun _ => true) true n 3 [c3] = some y3 := hp 3 _ rfl
 have t4 : DataW.trod enc Tryz.prog W 0 (fun _ => true) true n 26 [c4] = some y4 := hp 4 _ rfl
 have t5 : DataW.trod enc Tryz.prog W 0 (fun _ => true) true n 3 [c5] = some y5 := hp 5 _ rfl
 obtain ⟨a0, n0, k0, rfl⟩ := is_slice Tryz.underlying22 t0
 obtain ⟨a1, n1, k1, rfl⟩ := is_slice Tryz.underlying23 t1
 obtain ⟨a2, n2, k2, rfl⟩ := is_slice Tryz.underlying24 t2
 obtain ⟨a4, n4, k4, rfl⟩ := is_slice Tryz.underlying26 t4
 obtain ⟨op, e3, _, _⟩ := DataW.trod_int Tryz.underlying3 t3
 obtain ⟨b, e5, _, _⟩ := DataW.trod_int Tryz.underlying3 t5
 simp at e3 e5
 subst e3 e5
 have T0 : DataW.Trod enc Tryz.prog W 0 (fun _ => true) true 22 (.slice a0 n0 k0) y0.1 y0.2 := ⟨n, t0⟩
 have T1 : DataW.Trod enc Tryz.prog W 0 (fun _ => true) true 23 (.slice a1 n1 k1) y1.1 y1.2 := ⟨n, t1⟩
 have T2 : DataW.Trod enc Tryz.prog W 0 (fun _ => true) true 24 (.slice a2 n2 k2) y2.1 y2.2 := ⟨n, t2⟩
 have T4 : DataW.Trod enc Tryz.prog W 0 (fun _ => true) true 26 (.slice a4 n4 k4) y4.1 y4.2 := ⟨n, t4⟩
 simp only [DataW.weights, Tryz.underlying28, List.map_cons, List.map_nil, DataW.weightsEach, List.mem_append] at hw
 obtain ⟨R, hR, hRf⟩ := rulesArg_of T0
 obtain ⟨P, hP, hPf⟩ := certsArg_of T1
 obtain ⟨L, hL⟩ := entsArg_of T2
 obtain ⟨c, hc⟩ := setArg_of T4
 obtain ⟨la, cap, e, _⟩ := hR.at_
 cases e
 simp only [Rows.uptoBulk, Rows.uptoBulkAll] at hb
 have b0 := slice_len Tryz.underlying22 t0
 obtain ⟨b1, f1⟩ := certs_len T1 hP.at_
 obtain ⟨b2, f2⟩ := ents_len T2 hL
 have b4 := slice_len Tryz.underlying26 t4
 have e4 : n4 = c.length := by obtain ⟨_, _, e, _⟩ := hc.at_; cases e; rfl
 refine ⟨a0, R, k0, _, _, _, P, L, op, c, b, rfl, hR, hRf (fun x hx => hw x (.inl hx)), hP, hPf (fun x hx => hw x (.inr (.inl hx))), hL, hc, ⟨by omega, by rw [certsOf_length]; omega, by omega, by omega, fun k hk => by have := f1 k hk; omega, fun x hx => by have := f2 x hx; omega⟩⟩
end
end Go.Proofs.YthdfplafihmejaaGreat

namespace Go.Proofs.YthdfplafihmejaaGreat
open Go.ChangeShapes Go.WideShapes Go.ChangeAt Go.RowKit Go.Maps

section
variable {W : World} {H : Type} {enc : TypeId × Value → H}
instance : Inhabited BProof := ⟨⟨[], []⟩⟩
theorem Tryz.cellsWhy : Tryz.prog.cellsOf 39 = 3 := by kernel_rfl
theorem Tryz.cellsProof17 : Tryz.prog.cellsOf 83 = 2 := by kernel_rfl
def WhyArg (W : World) (v : Value) (y : BWhy) : Prop := ∃ tv pv, v = .agg #[.int .i64 y.entry, tv, pv] ∧ WhyAt W tv pv (· < W.heap.size) y ∧ ∀ p ∈ y.proofs, ProofFit p
end
end Go.Proofs.YthdfplafihmejaaGreat
