/-
  A store with one more certificate, in memory.
  Package store: Put.
-/
import Derived.Test.YtdgmjablkdemmaaGreatTNew
namespace Go.Proofs.YtdgmjablkdemmaaGreat
open Go.RowKit Go.Maps

theorem certE_len {c : BCert} (h : certB c = true) : (certE c).length ≤ 400 := by
  have C := certB_may h
  have L1 := num9 (z := c.kind) (by have := C.k7; omega)
  have L2 : (numE c.sg).length ≤ 9 := numE_len 8 _ (by have := C.sg; omega)
  have L3 := wordE_len C.sp
  have hfl : c.fr.length ≤ 16 := by
    obtain ⟨_, q, _⟩ := of_decide_eq_true C.fr
    rwa [lists_len] at q
  have L4 := wordsE_len c.fr (fun x hx => setB_mayC C.fr hx)
  have L5 := num9 (z := c.f) C.f1
  have L6 := num9 (z := c.t - c.f) (by have := C.t1; have := C.f0; omega)
  have L7 := num9 (z := c.n) C.n1
  unfold certE setE
  simp only [List.length_append, List.length_cons]
  omega
theorem MapV.look_eq {P : Program} {k e t : TypeId} {w : World} {b n : Nat} {f : Lit → Option Value} (h : MapV P k w b n f) (K : Keyed P k) (ht : P.underlying t = some (.map k e)) {z : Value} (hz : (zeroValue e).run P w = .ok z w) {key : Value} {kl : Lit} (hkey : keyOf P k key = some kl) {v : Value} (hv : (f kl).getD z = v) :
    (Instr.lookup t (.map (some b)) key false).run P w = .ok v w := by
  obtain ⟨D, h, _, q⟩ := h
  obtain ⟨v', ps, hrun, hv'⟩ := h.lookup K ht hz (show rawR z = some (.held z, []) from rfl) hkey
  rw [saysV_at q, hv] at hv'
  have hv' := rawR_inv hv'
  subst hv'
  exact hrun
theorem NumIn.no {w : World} {mN : Nat} {fN : Lit → Option Value} {C : Nat → Prop} {s : PStore} (h : NumIn w mN fN C s) : ∀ k, C k → k ≠ mN := fun k hk e => by
  obtain ⟨cs, q⟩ := h.typ k hk
  exact h.map.ne_cells q e
theorem NumIn.plus {w w' : World} {mN n' : Nat} {fN : Lit → Option Value} {C C2 : Nat → Prop} {s : PStore} {c : BCert} {sa : Option Addr} {sc : Nat} (hi : PInv s) (h : NumIn w mN fN C s) (hc : Chg (· = mN) w w')
    (hm : MapV Tryz.prog 3 w' mN n' (putV fN (.int .i64 (s.next : Int)) (some (certV c (.slice sa c.fr.length sc))))) (hn : n' = s.certs.length + 1) (hv : CertAt w' (.slice sa c.fr.length sc) C2 c)
    (ht : ∀ k, C2 k → ∃ cs, w'.heap[k]? = some (.cells cs 23 (0, 0))) :
    NumIn w' mN (putV fN (.int .i64 (s.next : Int)) (some (certV c (.slice sa c.fr.length sc)))) (fun k => C k ∨ C2 k) (s.plus c) := by
  subst hn
  refine ⟨?_, fun x hx => ?_, fun x d hx => ?_, fun k hk => ?_⟩
  · have : (s.plus c).certs.length = s.certs.length + 1 := by unfold PStore.plus; simp
    rw [this]; exact hm
  · rw [plus_get hi] at hx
    split at hx
    · cases hx
    · rename_i hne
      rw [putV_other _ (fun e => hne (by injection e))]
      exact h.noneS x hx
  · rw [plus_get hi] at hx
    split at hx
    · rename_i e
      subst e
      cases hx
      exact ⟨sa, sc, putV_same _ _ _, ⟨hv.set.up (fun k hk => .inr hk), hv.sp, hv.sg⟩⟩
    · rename_i hne
      obtain ⟨ra, rc, e, q⟩ := h.someS x d hx
      have q2 := q.chg hc (fun k hk e => h.no k hk e)
      exact ⟨ra, rc, by rw [putV_other _ (fun e => hne (by injection e))]; exact e, ⟨q2.set.up (fun k hk => .inl hk), q2.sp, q2.sg⟩⟩
  · rcases hk with hk | hk
    · obtain ⟨cs, q⟩ := h.typ k hk
      exact ⟨cs, hc.obj (fun e => h.no k hk e) q⟩
    · exact ht k hk
theorem ByteIn.plus {w' : World} {mB n' : Nat} {fB : Lit → Option Value} {s : PStore} {c : BCert} (h : ∀ y, fB (.string y) = (s.numOf y).map (fun i => .int .i64 (i : Int))) (hno : s.numOf (certE c) = none)
    (hm : MapV Tryz.prog 9 w' mB n' (putV fB (.string (certE c)) (some (.int .i64 (s.next : Int))))) (hn : n' = s.certs.length + 1) :
    ByteIn w' mB (putV fB (.string (certE c)) (some (.int .i64 (s.next : Int)))) (s.plus c) := by
  subst hn
  refine ⟨?_, fun y => ?_⟩
  · have : (s.plus c).certs.length = s.certs.length + 1 := by unfold PStore.plus; simp
    rw [this]; exact hm
  · rw [plus_numOf c hno]
    by_cases e : y = certE c
    · subst e
      rw [if_pos rfl, putV_same]; rfl
    · rw [if_neg e, putV_other _ (fun q => e (by injection q)), h]
/-- The numbers about a word, when k words of a certificate's For are done. -/
def abTo (s : PStore) (c : BCert) (k : Nat) (x : ByteArray) : List Nat := if x ∈ c.fr.take k then s.about x ++ [s.next] else s.about x
theorem abTo_zero (s : PStore) (c : BCert) : abTo s c 0 = s.about := by funext x; unfold abTo; simp
theorem abTo_all (s : PStore) (c : BCert) : abTo s c c.fr.length = (s.plus c).about := by funext x; unfold abTo; rw [List.take_length, plus_about]
theorem abTo_step {s : PStore} {c : BCert} (hnd : c.fr.Nodup) {k : Nat} {x : ByteArray} (hx : c.fr[k]? = some x) : abTo s c k x = s.about x ∧ updA (abTo s c k) x (s.about x ++ [s.next]) = abTo s c (k + 1) := by
  have hno : x ∉ c.fr.take k := fun hm => by
    obtain ⟨j, hj⟩ := List.mem_iff_getElem?.1 hm
    rw [List.getElem?_take] at hj
    split at hj
    · have := (List.getElem?_inj (List.getElem?_eq_some_iff.1 hx).1 hnd).1 (hx.trans hj.symm)
      omega
    · cases hj
  refine ⟨by unfold abTo; rw [if_neg hno], updA_self ?_ (fun y hy => ?_)⟩
  · unfold abTo; rw [if_pos]
    rw [List.take_add_one, hx]; simp
  · unfold abTo
    have : (y ∈ c.fr.take (k + 1)) ↔ y ∈ c.fr.take k := by
      rw [List.take_add_one, hx]
      simp [hy]
    simp only [this]
theorem setB_nodup {l : List ByteArray} (h : setB l = true) : l.Nodup := by
  obtain ⟨_, _, h3⟩ := of_decide_eq_true h
  rw [lists_len] at h3
  have key : ∀ d i, i + d + 1 < l.length → lessB ((lists l).getD i []) ((lists l).getD (i + d + 1) []) = true := by
    intro d
    induction d with
    | zero => intro i hi; exact (h3 (i + 1) hi).2 (by omega)
    | succ d ih =>
      intro i hi
      exact lessB_trans (ih i (by omega)) ((h3 (i + d + 2) hi).2 (by omega))
  rw [List.nodup_iff_pairwise_ne, List.pairwise_iff_getElem]
  intro i j hi hj hij e
  have := key (j - i - 1) i (by omega)
  rw [show i + (j - i - 1) + 1 = j by omega, lists_getB (List.getElem?_eq_getElem hi), lists_getB (List.getElem?_eq_getElem hj), e, lessB_irrefl] at this
  cases this
theorem about_len {s : PStore} (h : PInv s) (x : ByteArray) : (s.about x).length ≤ 200 := by
  unfold PStore.about
  rw [List.length_map]
  exact Nat.le_trans (List.length_filter_le _ _) (Nat.le_trans h.len h.room2)
theorem WordIn.cells {w : World} {mW nW : Nat} {fW : Lit → Option Value} {ab : ByteArray → List Nat} (h : WordIn w mW nW fW ab) {k : Nat} (hk : RowB fW k) : ∃ cs, w.heap[k]? = some (.cells cs 3 (0, 0)) := by
  obtain ⟨x, v, hv, hk⟩ := hk
  exact own_cells (h.row hv).1 hk
/-- A row, or none. -/
theorem WordIn.rowD {w : World} {mW nW : Nat} {fW : Lit → Option Value} {ab : ByteArray → List Nat} (h : WordIn w mW nW fW ab) (x : ByteArray) : ∃ v, (fW (wlit x)).getD (.slice none 0 0) = v ∧ w.ownsRow 0 3 1 v (ab x).length (ints (ab x)) ∧ ∀ k, v.ownBlock = some k → RowB fW k := by
  cases hx : fW (wlit x) with
  | none =>
    have : ab x = [] := by
      refine Classical.byContradiction fun q => ?_
      obtain ⟨v, e, _⟩ := h.rowS x q
      rw [hx] at e; cases e
    rw [this]
    exact ⟨_, rfl, World.ownsRow_nil _ _ _ _, fun k hk => by cases hk⟩
  | some v => exact ⟨v, rfl, (h.row hx).1, fun k hk => ⟨x, v, hx, hk⟩⟩
theorem ty_ne {w : World} {a k : Nat} {cs ds : Array Value} {t u : TypeId} {f g : Nat × Nat} (h : w.heap[a]? = some (.cells cs t f)) (h2 : w.heap[k]? = some (.cells ds u g)) (hn : t ≠ u) : a ≠ k := by
  rintro rfl
  rw [h] at h2
  cases h2
  exact hn rfl
structure Apart15 (L : Locs) (fW : Lit → Option Value) (C : Nat → Prop) : Prop where
  cb : ∀ k, C k → k ≠ L.b
  cN : ∀ k, C k → k ≠ L.mN
  cB : ∀ k, C k → k ≠ L.mB
  cW : ∀ k, C k → k ≠ L.mW
  rb : ∀ k, RowB fW k → k ≠ L.b
  rN : ∀ k, RowB fW k → k ≠ L.mN
  rB : ∀ k, RowB fW k → k ≠ L.mB
  rW : ∀ k, RowB fW k → k ≠ L.mW
  rC : ∀ k, RowB fW k → ¬ C k
  bN : L.b ≠ L.mN
  bB : L.b ≠ L.mB
  bW : L.b ≠ L.mW
theorem apart_of {w : World} {L : Locs} {fN fB fW : Lit → Option Value} {C : Nat → Prop} {s : PStore} {cs : Array Value} {nW : Nat} {ab : ByteArray → List Nat} {mb : Nat} (h1 : w.heap[L.b]? = some (.cells cs 80 (0, 0))) (h2 : NumIn w L.mN fN C s) (h3 : MapV Tryz.prog 9 w L.mB mb fB) (h4 : WordIn w L.mW nW fW ab) : Apart15 L fW C := by
  refine ⟨fun k hk => ?_, fun k hk => ?_, fun k hk => ?_, fun k hk => ?_, fun k hk => ?_, fun k hk => ?_, fun k hk => ?_, fun k hk => ?_, fun k hk hc => ?_, ?_, ?_, ?_⟩
  · obtain ⟨ds, q⟩ := h2.typ k hk
    exact ty_ne q h1 (by decide)
  · obtain ⟨ds, q⟩ := h2.typ k hk
    exact h2.map.ne_cells q
  · obtain ⟨ds, q⟩ := h2.typ k hk
    exact h3.ne_cells q
  · obtain ⟨ds, q⟩ := h2.typ k hk
    exact h4.map.ne_cells q
  · obtain ⟨ds, q⟩ := h4.cells hk
    exact ty_ne q h1 (by decide)
  · obtain ⟨ds, q⟩ := h4.cells hk
    exact h2.map.ne_cells q
  · obtain ⟨ds, q⟩ := h4.cells hk
    exact h3.ne_cells q
  · obtain ⟨ds, q⟩ := h4.cells hk
    exact h4.map.ne_cells q
  · obtain ⟨ds, q⟩ := h4.cells hk
    obtain ⟨es, q2⟩ := h2.typ k hc
    exact ty_ne q q2 (by decide) rfl
  · exact h2.map.ne_cells h1
  · exact h3.ne_cells h1
  · exact h4.map.ne_cells h1
end Go.Proofs.YtdgmjablkdemmaaGreat

namespace Go.Proofs.YtdgmjablkdemmaaGreat
open Go.RowKit Go.Maps

def PutRes (w : World) (b : Nat) (B : Nat → Prop) (r : Nat × Nat × PStore) (e : Ending) (w' : World) : Prop :=
  ∃ B', e = .returned (.tuple #[.int .i64 (r.1 : Int), .int .i64 (r.2.1 : Int)]) ∧ StoreAt w' b B' r.2.2 ∧ Chg B w w' ∧ ∀ k, B' k → B k ∨ w.heap.size ≤ k
theorem putS_bad {s : PStore} {c : BCert} (h : certB c = false) : putS s c = (0, 2, s) := by unfold putS; rw [if_neg (by rw [h]; decide)]
theorem putS_had {s : PStore} {c : BCert} {i : Nat} (h : certB c = true) (hn : s.numOf (certE c) = some i) : putS s c = (i, 0, s) := by unfold putS; rw [if_pos h, hn]
theorem putS_full {s : PStore} {c : BCert} (h : certB c = true) (hn : s.numOf (certE c) = none) (hr : s.room ≤ s.certs.length) : putS s c = (0, 3, s) := by unfold putS; rw [if_pos h, hn]; simp only; rw [if_pos hr]
theorem putS_new {s : PStore} {c : BCert} (h : certB c = true) (hn : s.numOf (certE c) = none) (hr : ¬ s.room ≤ s.certs.length) : putS s c = (s.next, 0, s.plus c) := by unfold putS; rw [if_pos h, hn]; simp only; rw [if_neg hr]
theorem next_free {s : PStore} (h : PInv s) : s.get (s.next : Int) = none := by
  cases hq : s.get (s.next : Int) with
  | none => rfl
  | some d =>
    obtain ⟨i, e, hm⟩ := get_some hq
    have := h.lt _ hm
    simp only at this
    omega
set_option maxHeartbeats 8000000 in
set_option maxRecDepth 100000 in
theorem sput_any (w : World) (b : Nat) (B : Nat → Prop) (s : PStore) (c : BCert) (sa : Option Addr) (sc : Nat) (G : Nat → Prop) (h : StoreAt w b B s) (hc : CertAt w (.slice sa c.fr.length sc) G c) (hG : ∀ k, G k → k < w.heap.size ∧ ¬ B k) (hn : s.next ≤ 1000000) (ht : s.turn ≤ 1000000) :
    Calls Tryz.prog 9 #[.pointer (some ⟨b, 0, none⟩), certV c (.slice sa c.fr.length sc)] w (PutRes w b B (putS s c)) := by
  have k0 := chg_alloc (fun _ => False) w (.cells #[.int .i64 c.kind, .int .u16 (c.sg : Int), .string c.sp, .slice sa c.fr.length sc, .int .i64 c.f, .int .i64 c.t, .int .i64 c.n] 34)
  have OB := Lib.hid (obj_alloc_new w (.cells #[.int .i64 c.kind, .int .u16 (c.sg : Int), .string c.sp, .slice sa c.fr.length sc, .int .i64 c.f, .int .i64 c.t, .int .i64 c.n] 34))
  have hsz : w.heap.size < (w.alloc (.cells #[.int .i64 c.kind, .int .u16 (c.sg : Int), .string c.sp, .slice sa c.fr.length sc, .int .i64 c.f, .int .i64 c.t, .int .i64 c.n] 34)).heap.size := by rw [World.size_alloc]; omega
  have HC := Lib.hid (hc.chg k0 (fun _ _ e => e))
  have EN := Lib.hid (encode_any _ c sa sc G HC.out (fun k hk => by have := (hG k hk).1; omega))
  have HG := Lib.hid hG
  have K0 := Lib.hid k0
  have hi := h.inv
  have HB := Lib.hid (fun k (hk : B k) => h.lt hk)
  have PB := Lib.hid (fun e : certB c = false => putS_bad (s := s) e)
  have PH := Lib.hid (fun (e : certB c = true) i (q : s.numOf (certE c) = some i) => putS_had e q)
  have PF := Lib.hid (fun (e : certB c = true) (q : s.numOf (certE c) = none) (r : s.room ≤ s.certs.length) => putS_full e q r)
  have PN := Lib.hid (fun (e : certB c = true) (q : s.numOf (certE c) = none) (r : ¬ s.room ≤ s.certs.length) => putS_new e q r)
  have CL := Lib.hid (fun e : certB c = true => certE_len e)
  have CM := Lib.hid (fun e : certB c = true => certB_may e)
  have HI := Lib.hid hi
  have SAME := Lib.hid (fun (w' : World) (k : Chg (fun _ => False) w w') => (⟨B, h.chg k (fun _ _ e => e), k.mono (fun _ _ e => e.elim), fun _ q => .inl q⟩ : ∃ B', StoreAt w' b B' s ∧ Chg B w w' ∧ ∀ k, B' k → B k ∨ w.heap.size ≤ k))
  generalize putS s c = res at *
  have CV := Lib.hid (show certV c = fun v => certV c v from rfl)
  obtain ⟨L, F, nW, C, rfl, h1, _, hMC, _⟩ := h
  have HS := Lib.hid h1
  have MC := Lib.hid hMC
  have hr := hi.room2
  have hle := hi.len
  have ENC := Lib.hid (show EncRes = fun w c b e w' => EncRes w c b e w' from rfl)
  clear h1 hMC hc hG k0 hi ENC CV
  obtain ⟨kind, sg, sp, fr, f, t, n⟩ := c
  unfold certV EncRes at EN
  unfold certV
  simp only at OB hsz HC EN HG K0 PB PH PF PN CL CM ⊢
  have p0 := cell_of (o := 0) OB.out rfl
  have p1 := cell_of (o := 1) OB.out rfl
  have p2 := cell_of (o := 2) OB.out rfl
  have p3 := cell_of (o := 3) OB.out rfl
  have p4 := cell_of (o := 4) OB.out rfl
  have p5 := cell_of (o := 5) OB.out rfl
  have p6 := cell_of (o := 6) OB.out rfl
  go_enter Tryz.func9, Tryz.ntmps9
  go_wp2_with fail
  generalize hw0 : w.alloc (.cells #[.int .i64 kind, .int .u16 (sg : Int), .string sp, .slice sa fr.length sc, .int .i64 f, .int .i64 t, .int .i64 n] 34) = w0 at *
  clear hw0 p0 p1 p2 p3 p4 p5 p6
  (with_reducible refine (EN.out).mono ?_)
  rintro e w1 ⟨(⟨hcb, rfl⟩ | ⟨hcb, k, hk, rfl⟩), k1⟩
  rotate_left
  · have K1 := Lib.hid (K0.out.trans k1)
    have g1 : decide (k = 0) = false := decide_eq_false hk
    have g2 : (k != 0) = true := by simpa using hk
    have R := PB.out hcb
    subst R
    clear k1 EN HC hcb
    go_wp2
    go_ret2
    obtain ⟨B', q1, q2, q3⟩ := SAME.out _ K1.out
    exact ⟨B', rfl, q1, q2, q3⟩
  have K1 := Lib.hid (K0.out.trans k1)
  obtain ⟨ce, hce⟩ : ∃ ce : ByteArray, ce = ⟨(certE ⟨kind, sg, sp, fr, f, t, n⟩).toArray⟩ := ⟨_, rfl⟩
  have hcd : certE ⟨kind, sg, sp, fr, f, t, n⟩ = ce.data.toList := by rw [hce]
  have hcs : ce.size ≤ 400 := by have := CL.out hcb; rw [hcd, size_list] at this; exact this
  rw [← hce]
  have HCD := Lib.hid hcd
  clear hce hcd
  have KEY := Lib.hid (skey_of ce (by unfold maxLen; omega))
  have H1 := Lib.hid (HS.out.chg K1.out (fun _ _ e => e))
  have OB1 := Lib.hid (k1.obj (fun e => e) OB.out)
  have HC1 := Lib.hid (HC.out.chg k1 (fun _ _ e => e))
  clear HS EN HC OB k1
  have c0 : w1.cell? ⟨L.b, 0, none⟩ = some (.int .i64 (s.room : Int)) := cell_of H1.out.own rfl
  have c1 : w1.cell? ⟨L.b, 1, none⟩ = some (.int .i64 (s.next : Int)) := cell_of H1.out.own rfl
  have c2 : w1.cell? ⟨L.b, 2, none⟩ = some (.int .i64 (s.turn : Int)) := cell_of H1.out.own rfl
  have c3 : w1.cell? ⟨L.b, 3, none⟩ = some (.map (some L.mN)) := cell_of H1.out.own rfl
  have c4 : w1.cell? ⟨L.b, 4, none⟩ = some (.map (some L.mB)) := cell_of H1.out.own rfl
  have ZI := Lib.hid (Tryz.zeroInt)
  have BS := Lib.hid (H1.out.byt.says ce.data.toList)
  cases hno : s.numOf (certE ⟨kind, sg, sp, fr, f, t, n⟩) with
  | some i =>
    have hf : F.fB (.string ce.data.toList) = some (.int .i64 (i : Int)) := by rw [BS.out, ← HCD.out, hno]; rfl
    have R := PH.out hcb i hno
    subst R
    go_wp2_with (at_lookup; refine wpList_lookV_ok rfl (.tmp 24) (.tmp 25) 77 rfl 9 3 Tryz.strKeyed Tryz.underlying77 _ (ZI.out _) L.mB s.certs.length F.fB rfl H1.out.byt.map _ _ rfl KEY.out (.int .i64 (i : Int)) true (by rw [hf]; rfl) (by rw [hf]; rfl) ?_)
    go_ret2
    obtain ⟨B', q1, q2, q3⟩ := SAME.out _ K1.out
    exact ⟨B', rfl, q1, q2, q3⟩
  | none =>
  have hf : F.fB (.string ce.data.toList) = none := by rw [BS.out, ← HCD.out, hno]; rfl
  have HF := Lib.hid hf
  clear BS
  go_wp2_with (at_lookup; refine wpList_lookV_ok rfl (.tmp 24) (.tmp 25) 77 rfl 9 3 Tryz.strKeyed Tryz.underlying77 _ (ZI.out _) L.mB s.certs.length F.fB rfl H1.out.byt.map _ _ rfl KEY.out (.int .i64 0) false (by rw [hf]; rfl) (by rw [hf]; rfl) ?_)
  clear hf
  go_wp2_with fail
  have hlen := (H1.out.num.map.chg (chg_drew (fun _ => False) w1) (fun e => e)).len Tryz.underlying76
  have e0 : w1.drew.cell? ⟨L.b, 0, none⟩ = some (.int .i64 (s.room : Int)) := c0
  have e3 : w1.drew.cell? ⟨L.b, 3, none⟩ = some (.map (some L.mN)) := c3
  refine wp_still_drew (by kernel_rfl) (by kernel_rfl) ?_
  repeat still_step
  refine wpStill_nil ?_
  clear hlen
  have H2 := Lib.hid (H1.out.chg (chg_drew (fun _ => False) w1) (fun _ _ e => e))
  have K2 := Lib.hid K1.out.drew
  have OB2 := Lib.hid ((chg_drew (fun _ => False) w1).obj (fun e => e) OB1.out)
  have HC2 := Lib.hid (HC1.out.chg (chg_drew (fun _ => False) w1) (fun _ _ e => e))
  have e1 : w1.drew.cell? ⟨L.b, 1, none⟩ = some (.int .i64 (s.next : Int)) := c1
  have e2 : w1.drew.cell? ⟨L.b, 2, none⟩ = some (.int .i64 (s.turn : Int)) := c2
  have f1 := frozen_of (o := 1) H2.out.own
  have f2 := frozen_of (o := 2) H2.out.own
  clear c0 c1 c2 c3 c4 H1 K1 OB1 HC1
  generalize w1.drew = wd at *
  by_cases hfull : s.room ≤ s.certs.length
  · have g1 : decide ((s.room : Int) ≤ (s.certs.length : Int)) = true := decide_eq_true (by omega)
    have g2 : decide (s.room ≤ s.certs.length) = true := decide_eq_true hfull
    have R := PF.out hcb hno hfull
    subst R
    go_wp2
    go_ret2
    obtain ⟨B', q1, q2, q3⟩ := SAME.out _ K2.out
    exact ⟨B', rfl, q1, q2, q3⟩
  have g1 : decide ((s.room : Int) ≤ (s.certs.length : Int)) = false := decide_eq_false (by omega)
  have g2 : decide (s.room ≤ s.certs.length) = false := decide_eq_false hfull
  have R := PN.out hcb hno hfull
  subst R
  have x1 : IntKind.i64.wrap ((s.next : Int) + 1) = (s.next : Int) + 1 := by rw [IntKind.wrap_i64]; omega
  have x2 : IntKind.i64.wrap ((s.turn : Int) + 1) = (s.turn : Int) + 1 := by rw [IntKind.wrap_i64]; omega
  go_wp2_with fail
  obtain ⟨w2, hw2⟩ : ∃ w2, w2 = (wd.setCell ⟨L.b, 1, none⟩ (.int .i64 ((s.next : Int) + 1))).setCell ⟨L.b, 2, none⟩ (.int .i64 ((s.turn : Int) + 1)) := ⟨_, rfl⟩
  rw [← hw2]
  have own2 : w2.heap[L.b]? = some (.cells (storeCells (s.plus ⟨kind, sg, sp, fr, f, t, n⟩) L) 80 (0, 0)) := by
    rw [hw2]
    exact obj_setCell (o := 2) (obj_setCell (o := 1) H2.out.own (.int .i64 ((s.next : Int) + 1))) (.int .i64 ((s.turn : Int) + 1))
  have kw : Chg (· = L.b) wd w2 := by
    rw [hw2]
    exact (chg_cell wd L.b 1 _).trans (chg_cell _ L.b 2 _)
  have AP := apart_of H2.out.own H2.out.num H2.out.byt.map H2.out.wrd
  have HA := Lib.hid AP
  have hbB : B L.b := MC.out _ (.inl (.inl rfl))
  have nb : w.heap.size ≠ L.b := fun e => by have := HB.out _ hbB; omega
  have HN2 := Lib.hid (H2.out.num.chg kw (fun e => AP.bN e.symm) (fun k hk => AP.cb k hk))
  have HY2 := Lib.hid (H2.out.byt.chg kw (fun e => AP.bB e.symm))
  have HW2 := Lib.hid (H2.out.wrd.chg kw (fun e => AP.bW e.symm) (fun k hk => AP.rb k hk))
  have OB3 := Lib.hid (kw.obj nb OB2.out)
  have HC3 := Lib.hid (HC2.out.chg kw (fun k hk e => (HG.out k hk).2 (by rw [e]; exact hbB)))
  have K3 := Lib.hid (show Chg B w w2 from (K2.out.mono (fun _ _ e => e.elim)).trans (kw.mono (fun k hk e => by rw [e]; exact hbB)))
  have DD := Lib.hid (And.intro H2.out.d1 (And.intro H2.out.d2 (And.intro H2.out.d3 H2.out.bnd)))
  have OW := Lib.hid own2
  have hws2 : w.heap.size < w2.heap.size := lt_of_obj OB3.out
  clear hw2 own2 kw AP H2 OB2 HC2 K2 e0 e1 e2 e3 f1 f2 x1 x2
  have c3 : w2.drew.cell? ⟨L.b, 3, none⟩ = some (.map (some L.mN)) := cell_of OW.out rfl
  have c4 : w2.drew.cell? ⟨L.b, 4, none⟩ = some (.map (some L.mB)) := cell_of OW.out rfl
  have k4' := chg_drew (fun _ => False) w2
  have p0 := cell_of (o := 0) (k4'.obj (fun e => e) OB3.out) rfl
  have p1 := cell_of (o := 1) (k4'.obj (fun e => e) OB3.out) rfl
  have p2 := cell_of (o := 2) (k4'.obj (fun e => e) OB3.out) rfl
  have p3 := cell_of (o := 3) (k4'.obj (fun e => e) OB3.out) rfl
  have p4 := cell_of (o := 4) (k4'.obj (fun e => e) OB3.out) rfl
  have p5 := cell_of (o := 5) (k4'.obj (fun e => e) OB3.out) rfl
  have p6 := cell_of (o := 6) (k4'.obj (fun e => e) OB3.out) rfl
  clear k4'
  refine wp_region_planL (N := 95) [.rd [0, 1, 2, 3, 4, 5], .ef 6, .ef 7] 7 (fun w' => w'.cell? ⟨L.b, 3, none⟩ = some (.map (some L.mN)) ∧ w'.cell? ⟨w.heap.size, 0, none⟩ = some (.int .i64 kind) ∧ w'.cell? ⟨w.heap.size, 1, none⟩ = some (.int .u16 (sg : Int)) ∧ w'.cell? ⟨w.heap.size, 2, none⟩ = some (.string sp) ∧ w'.cell? ⟨w.heap.size, 3, none⟩ = some (.slice sa fr.length sc) ∧ w'.cell? ⟨w.heap.size, 4, none⟩ = some (.int .i64 f) ∧ w'.cell? ⟨w.heap.size, 5, none⟩ = some (.int .i64 t) ∧ w'.cell? ⟨w.heap.size, 6, none⟩ = some (.int .i64 n)) (by kernel_rfl) (by kernel_rfl) (by kernel_rfl) (by kernel_rfl) (by kernel_rfl) (Nat.le_of_ble_eq_true rfl) ⟨c3, p0, p1, p2, p3, p4, p5, p6⟩ ?_
  refine planL_rd (A := ?A1) ?h1 ?h2
  case h1 =>
    rintro w' ⟨z0, z1, z2, z3, z4, z5, z6, z7⟩ K hK
    simp only [opsAt, List.filterMap_cons, List.filterMap_nil, List.getElem?_toArray, List.getElem?_cons_succ, List.getElem?_cons_zero]
    repeat still_step
    refine wpStill_nil ?_
    exact hK
  have k4 := chg_drew (fun _ => False) w2
  have OW := Lib.hid (k4.obj (fun e => e) OW.out)
  have HN2 := Lib.hid (HN2.out.chg k4 (fun e => e) (fun _ _ e => e))
  have HY2 := Lib.hid (HY2.out.chg k4 (fun e => e))
  have HW2 := Lib.hid (HW2.out.chg k4 (fun e => e) (fun _ _ e => e))
  have OB3 := Lib.hid (k4.obj (fun e => e) OB3.out)
  have HC3 := Lib.hid (HC3.out.chg k4 (fun _ _ e => e))
  have K3 := Lib.hid (K3.out.drew)
  have hws2 : w.heap.size < w2.drew.heap.size := hws2
  have hfrm := certB_may hcb
  have hf16 : fr.length ≤ 16 := by
    obtain ⟨_, q, _⟩ := of_decide_eq_true hfrm.fr
    rw [lists_len] at q
    exact q
  have hf1 : 1 ≤ fr.length := by
    obtain ⟨q, _⟩ := of_decide_eq_true hfrm.fr
    rw [lists_len] at q
    exact q
  have FND := Lib.hid (setB_nodup hfrm.fr)
  have FSZ := Lib.hid (show ∀ x ∈ fr, x.size ≤ maxLen from fun x hx => by
    have := (may_size (setB_mayC hfrm.fr hx)).1
    unfold maxLen; omega)
  obtain ⟨g, o, rfl, hgG⟩ := HC3.out.set.some (by simp only; omega)
  have CLN := Lib.hid (cclone_any w2.drew ⟨kind, sg, sp, fr, f, t, n⟩ g o sc G HC3.out.set.at_ (by simp only; omega))
  unfold certV at CLN
  simp only at CLN
  clear k4 hfrm c3 c4 p0 p1 p2 p3 p4 p5 p6
  generalize w2.drew = w2d at *
  refine planL_ef rfl ?_
  go_wp2_with fail
  (with_reducible refine (CLN.out).mono ?_)
  rintro e w3 ⟨v3, rfl, o3, k3⟩
  obtain ⟨a3, c3, rfl⟩ := own_shape o3
  have OW3 := Lib.hid (k3.obj (fun e => e) OW.out)
  have d3 : w3.cell? ⟨L.b, 3, none⟩ = some (.map (some L.mN)) := cell_of OW3.out rfl
  have p0 := cell_of (o := 0) (k3.obj (fun e => e) OB3.out) rfl
  have p1 := cell_of (o := 1) (k3.obj (fun e => e) OB3.out) rfl
  have p2 := cell_of (o := 2) (k3.obj (fun e => e) OB3.out) rfl
  have p3 := cell_of (o := 3) (k3.obj (fun e => e) OB3.out) rfl
  have p4 := cell_of (o := 4) (k3.obj (fun e => e) OB3.out) rfl
  have p5 := cell_of (o := 5) (k3.obj (fun e => e) OB3.out) rfl
  have p6 := cell_of (o := 6) (k3.obj (fun e => e) OB3.out) rfl
  go_wp2_with fail
  refine ⟨.inr ⟨d3, p0, p1, p2, p3, p4, p5, p6⟩, ?_⟩
  clear d3 p0 p1 p2 p3 p4 p5 p6
  have HN3 := Lib.hid (HN2.out.chg k3 (fun e => e) (fun _ _ e => e))
  have HY3 := Lib.hid (HY2.out.chg k3 (fun e => e))
  have HW3 := Lib.hid (HW2.out.chg k3 (fun e => e) (fun _ _ e => e))
  have OB4 := Lib.hid (k3.obj (fun e => e) OB3.out)
  have HC4 := Lib.hid (HC3.out.chg k3 (fun _ _ e => e))
  have K4 := Lib.hid (K3.out.trans (k3.mono (fun _ _ e => e.elim)))
  have O3 := Lib.hid o3
  clear HN2 HY2 HW2 OB3 HC3 K3 o3 k3 OW CLN
  refine planL_ef rfl ?_
  have NK := Lib.hid (ikey_of (s.next : Int) (by omega) (by omega))
  refine wpList_putV rfl (.tmp 62) (.tmp 63) (.tmp 65) 76 rfl 3 34 Tryz.intKeyed Tryz.underlying76 L.mN s.certs.length F.fN rfl HN3.out.map ?e1 _ _ _ rfl rfl NK.out ?e2
  case e1 => unfold maxLen; omega
  intro w4 n4 hm4 _ hn4 _ k4
  refine ⟨.inl rfl, planL_nil ?_⟩
  have AP := apart_of OW3.out HN3.out HY3.out.map HW3.out
  have hbN : B L.mN := MC.out _ (.inl (.inr (.inl rfl)))
  have SA := setAt_own O3.out FSZ.out
  have c2n : ∀ k, (Value.slice a3 fr.length c3).ownBlock = some k → k ≠ L.mN := fun k hk => by
    obtain ⟨cs, q⟩ := own_cells O3.out hk
    exact HN3.out.map.ne_cells q
  have NUM4 := Lib.hid (HN3.out.plus (c := ⟨kind, sg, sp, fr, f, t, n⟩) HI.out k4 hm4 (hn4 (by rw [HN3.out.noneS _ (next_free HI.out)]; rfl)) ⟨SA.chg k4 c2n, HC4.out.sp, HC4.out.sg⟩ (fun k hk => by
      obtain ⟨cs, q⟩ := own_cells O3.out hk
      exact ⟨cs, k4.obj (c2n k hk) q⟩))
  have BYT4 := Lib.hid (HY3.out.chg k4 (fun e => DD.out.1 e.symm))
  have WRD4 := Lib.hid (HW3.out.chg k4 (fun e => DD.out.2.1 e.symm) (fun k hk => AP.rN k hk))
  have OW4 := Lib.hid (k4.obj AP.bN OW3.out)
  have OB5 := Lib.hid (k4.obj (fun e => by have := HB.out _ hbN; omega) OB4.out)
  have HC5 := Lib.hid (HC4.out.chg k4 (fun k hk e => (HG.out k hk).2 (by rw [e]; exact hbN)))
  have K5 := Lib.hid (K4.out.trans (k4.mono (fun k hk e => by rw [e]; exact hbN)))
  have NW3 := Lib.hid (show ∀ k, (Value.slice a3 fr.length c3).ownBlock = some k → w.heap.size ≤ k from fun k hk => by have := (O3.out.lt k hk).1; omega)
  clear AP SA c2n hm4 hn4 k4 HN3 HY3 HW3 OW3 OB4 HC4 K4 O3 NK
  generalize hfN : putV F.fN (.int .i64 (s.next : Int)) (some (certV ⟨kind, sg, sp, fr, f, t, n⟩ (.slice a3 fr.length c3))) = fN' at *
  generalize hC2 : (fun k => C k ∨ (Value.slice a3 fr.length c3).ownBlock = some k) = C' at *
  have CC := Lib.hid (show ∀ k, C' k → B k ∨ w.heap.size ≤ k from fun k hk => by
    rw [← hC2] at hk
    rcases hk with e | e
    · exact .inl (MC.out k (.inr e))
    · exact .inr (NW3.out k e))
  clear hfN hC2 NW3
  have d4 : w4.cell? ⟨L.b, 4, none⟩ = some (.map (some L.mB)) := cell_of OW4.out rfl
  go_wp2_with (at_mapUpdate; refine wpList_putV rfl (.tmp 69) (.tmp 70) (.tmp 71) 77 rfl 9 3 Tryz.strKeyed Tryz.underlying77 L.mB s.certs.length F.fB rfl BYT4.out.map ?b1 (.string ce) (.int .i64 (s.next : Int)) (.string ce.data.toList) rfl rfl KEY.out ?b2)
  case b1 => unfold maxLen; omega
  intro w5 n5 hm5 _ hn5 _ k5
  have AP := apart_of OW4.out NUM4.out BYT4.out.map WRD4.out
  have hbY : B L.mB := MC.out _ (.inl (.inr (.inr (.inl rfl))))
  rw [← HCD.out] at hm5
  have BYT5 := Lib.hid (ByteIn.plus (c := ⟨kind, sg, sp, fr, f, t, n⟩) BYT4.out.says hno hm5 (hn5 (by rw [HF.out])))
  have NUM5 := Lib.hid (NUM4.out.chg k5 DD.out.1 (fun k hk => AP.cB k hk))
  have WRD5 := Lib.hid (WRD4.out.chg k5 (fun e => DD.out.2.2.1 e.symm) (fun k hk => AP.rB k hk))
  have OW5 := Lib.hid (k5.obj AP.bB OW4.out)
  have OB6 := Lib.hid (k5.obj (fun e => by have := HB.out _ hbY; omega) OB5.out)
  have HC6 := Lib.hid (HC5.out.chg k5 (fun k hk e => (HG.out k hk).2 (by rw [e]; exact hbY)))
  have K6 := Lib.hid (K5.out.trans (k5.mono (fun k hk e => by rw [e]; exact hbY)))
  clear AP hm5 hn5 k5 NUM4 BYT4 WRD4 OW4 OB5 HC5 K5 d4 KEY HF HCD
  generalize hfB : putV F.fB (.string (certE ⟨kind, sg, sp, fr, f, t, n⟩)) (some (.int .i64 (s.next : Int))) = fB' at *
  clear hfB
  have q3 := cell_of (o := 3) OB6.out rfl
  have SPL := Lib.hid (show s.plus ⟨kind, sg, sp, fr, f, t, n⟩ = s.plus ⟨kind, sg, sp, fr, f, t, n⟩ from rfl)
  clear SPL
  go_wp2_with fail
  clear q3
  go_loopw [75] (fun iv wr => ∃ (k : Nat) (nW' : Nat) (fW' : Lit → Option Value), k ≤ fr.length ∧ iv = .int .i64 k ∧ Hid (wr.heap[L.b]? = some (.cells (storeCells (s.plus ⟨kind, sg, sp, fr, f, t, n⟩) L) 80 (0, 0)) ∧ NumIn wr L.mN fN' C' (s.plus ⟨kind, sg, sp, fr, f, t, n⟩) ∧ ByteIn wr L.mB fB' (s.plus ⟨kind, sg, sp, fr, f, t, n⟩) ∧ WordIn wr L.mW nW' fW' (abTo s ⟨kind, sg, sp, fr, f, t, n⟩ k) ∧ nW' ≤ 16 * s.next + k ∧ (∀ j, RowB fW' j → RowB F.fW j ∨ w5.heap.size ≤ j) ∧ Chg B w5 wr)) (fun iv _ => fr.length - (intOf iv).toNat)
  case atStart => exact ⟨0, nW, F.fW, by omega, rfl, Lib.hid ⟨OW5.out, NUM5.out, BYT5.out, by rw [abTo_zero]; exact WRD5.out, by have := DD.out.2.2.2; omega, fun j hj => .inl hj, Chg.refl _ _⟩⟩
  case round =>
    obtain ⟨k, nW', fW', hk, rfl, HI2⟩ := hrel
    clear OW5 NUM5 BYT5 WRD5
    have HR := HI2.out
    obtain ⟨ow, num, byt, wrd, hnw, hrow, kc⟩ := HR
    have OW := Lib.hid ow
    have NUM := Lib.hid num
    have BYT := Lib.hid byt
    have WRD := Lib.hid wrd
    have ROW := Lib.hid hrow
    have KC := Lib.hid kc
    clear HI2 ow num byt wrd hrow kc
    by_cases hlt : k < fr.length
    · obtain ⟨x, hx⟩ : ∃ x, fr[k]? = some x := ⟨_, List.getElem?_eq_getElem hlt⟩
      obtain ⟨_, _, e1, _, hcl⟩ := (HC6.out.set.chg KC.out (fun k hk e => (HG.out k hk).2 e)).at_
      cases e1
      obtain ⟨lb, lo, e2, _, c0, hxs⟩ := hcl k x hx
      cases e2
      obtain ⟨hab, hab2⟩ := abTo_step (s := s) (c := ⟨kind, sg, sp, fr, f, t, n⟩) FND.out hx
      have AB := Lib.hid (And.intro hab hab2)
      clear hcl hx hab hab2
      go_wp2_with fail
      obtain ⟨v, hv, hov, hvr⟩ := WRD.out.rowD x
      rw [AB.out.1] at hov
      obtain ⟨va, vc, rfl⟩ := own_shape hov
      have HV := Lib.hid (And.intro hv hov)
      have VR := Lib.hid hvr
      have hal := about_len HI.out x
      have WK := Lib.hid (wkey_of x hxs)
      have ZS := Lib.hid (Tryz.zeroInts)
      have LK := Lib.hid (fun (w' : World) (m : MapV Tryz.prog 23 w' L.mW nW' fW') => m.look_eq Tryz.wordKeyed Tryz.underlying78 (ZS.out w') (show keyOf Tryz.prog 23 (.string x) = some (wlit x) from WK.out) hv)
      have d5 : wr.drew.cell? ⟨L.b, 5, none⟩ = some (.map (some L.mW)) := cell_of OW.out rfl
      have kd := chg_drew (fun _ => False) wr
      have lk0 := LK.out _ (WRD.out.map.chg kd (fun e => e))
      clear hv hov hvr c0 hxs
      refine wp_region_planL (N := 95) [.rd [0, 1, 2, 3, 4, 5, 6, 7, 8, 9, 10, 11], .ef 12, .ef 13, .ef 14] 14 (fun w' => w'.cell? ⟨L.b, 5, none⟩ = some (.map (some L.mW)) ∧ (Instr.lookup 78 (.map (some L.mW)) (.string x) false).run Tryz.prog w' = .ok (.slice va (s.about x).length vc) w') (by kernel_rfl) (by kernel_rfl) (by kernel_rfl) (by kernel_rfl) (by kernel_rfl) (Nat.le_of_ble_eq_true rfl) ⟨d5, lk0⟩ ?_
      refine planL_rd (A := ?A2) ?g1 ?g2
      case g1 =>
        rintro w' ⟨z0, z1⟩ K hK
        simp only [opsAt, List.filterMap_cons, List.filterMap_nil, List.getElem?_toArray, List.getElem?_cons_succ, List.getElem?_cons_zero]
        repeat still_step
        refine wpStill_nil ?_
        exact hK
      have OWd := Lib.hid (kd.obj (fun e => e) OW.out)
      have NUMd := Lib.hid (NUM.out.chg kd (fun e => e) (fun _ _ e => e))
      have BYTd := Lib.hid (BYT.out.chg kd (fun e => e))
      have WRDd := Lib.hid (WRD.out.chg kd (fun e => e) (fun _ _ e => e))
      have HVd := Lib.hid (And.intro HV.out.1 (own_chg HV.out.2 kd (fun _ _ e => e)))
      have KCd := Lib.hid (KC.out.drew)
      clear kd lk0 d5 OW NUM BYT WRD KC HV
      generalize wr.drew = wd2 at *
      refine planL_ef rfl ?_
      go_wp2_with fail
      have ka := chg_alloc (fun _ => False) wd2 (.cells #[.int .i64 (s.next : Int)] 3)
      have OWa := Lib.hid (ka.obj (fun e => e) OWd.out)
      have NUMa := Lib.hid (NUMd.out.chg ka (fun e => e) (fun _ _ e => e))
      have BYTa := Lib.hid (BYTd.out.chg ka (fun e => e))
      have WRDa := Lib.hid (WRDd.out.chg ka (fun e => e) (fun _ _ e => e))
      have HVa := Lib.hid (And.intro HVd.out.1 (own_chg HVd.out.2 ka (fun _ _ e => e)))
      have KCa := Lib.hid (KCd.out.trans (ka.mono (fun _ _ e => e.elim)))
      have obn := obj_alloc_new wd2 (.cells #[.int .i64 (s.next : Int)] 3)
      refine ⟨.inr ⟨cell_of OWa.out rfl, LK.out _ WRDa.out.map⟩, ?_⟩
      clear ka OWd NUMd BYTd WRDd HVd KCd
      refine planL_ef rfl ?_
      refine wpList_pushF rfl (.tmp 89) (.tmp 91) 42 rfl 3 1 8 Tryz.underlying42 Tryz.elemInt 0 _ (s.about x).length (ints (s.about x)) rfl HVa.out.2 wd2.heap.size [.int .i64 (s.next : Int)] 3 (0, 0) rfl obn rfl (by intro u hu; simp at hu; subst hu; rfl) (by omega) (by unfold maxLen; omega) (Nat.zero_le _) ?_
      generalize wd2.alloc (.cells #[.int .i64 (s.next : Int)] 3) = wa at *
      intro v6 w6 o6 g6 sn6
      obtain ⟨a6, c6, rfl⟩ := own_shape o6
      have k6 := Chg.of_grown g6
      have AP := apart_of OWa.out NUMa.out BYTa.out.map WRDa.out
      have WR6 := Lib.hid (WRDa.out.map.chg k6 (fun e => AP.rW _ (VR.out _ e) rfl))
      have OW6 := Lib.hid (k6.obj (fun e => AP.rb _ (VR.out _ e) rfl) OWa.out)
      have NUM6 := Lib.hid (NUMa.out.chg k6 (fun e => AP.rN _ (VR.out _ e) rfl) (fun k hk e => AP.rC k (VR.out _ e) hk))
      have BYT6 := Lib.hid (BYTa.out.chg k6 (fun e => AP.rB _ (VR.out _ e) rfl))
      have KC6 := Lib.hid (KCa.out.next k6 (fun k hk e => by
        rcases ROW.out k (VR.out _ e) with q | q
        · exact MC.out k (.inl (.inr (.inr (.inr (.inr q)))))
        · omega))
      have O6 := Lib.hid (show w6.ownsRow 0 3 1 (.slice a6 ((s.about x).length + 1) c6) (s.about x ++ [s.next]).length (ints (s.about x ++ [s.next])) from by
        unfold ints at *
        rw [List.map_append, List.length_append]; exact o6)
      have G6 := Lib.hid (And.intro k6 sn6)
      have hs5 : w5.heap.size ≤ wa.heap.size := KCa.out.size
      clear o6 g6 sn6 k6 OWa BYTa NUMa KCa
      go_wp2_with fail
      refine ⟨.inr ⟨cell_of OW6.out rfl, LK.out _ WR6.out⟩, ?_⟩
      refine planL_ef rfl ?_
      refine wpList_putV rfl (.tmp 82) (.tmp 83) (.tmp 92) 78 rfl 23 42 Tryz.wordKeyed Tryz.underlying78 L.mW nW' fW' rfl WR6.out ?m1 _ _ (wlit x) rfl rfl WK.out ?m2
      case m1 => unfold maxLen; omega
      intro w7 n7 hm7 _ _ hn7 k7
      refine ⟨.inl rfl, planL_nil ?_⟩
      have WRD7 := Lib.hid (WRDa.out.put (x := x) (l := s.about x ++ [s.next]) (by simp) HVa.out.1 G6.out.1 O6.out G6.out.2 hm7 k7)
      rw [AB.out.2] at WRD7
      have hbW : B L.mW := MC.out _ (.inl (.inr (.inr (.inr (.inl rfl)))))
      have OW7 := Lib.hid (k7.obj AP.bW OW6.out)
      have NUM7 := Lib.hid (NUM6.out.chg k7 DD.out.2.1 (fun k hk => AP.cW k hk))
      have BYT7 := Lib.hid (BYT6.out.chg k7 DD.out.2.2.1)
      have KC7 := Lib.hid (KC6.out.trans (k7.mono (fun k hk e => by rw [e]; exact hbW)))
      have ROW7 := Lib.hid (show ∀ j, RowB (putV fW' (wlit x) (some (.slice a6 ((s.about x).length + 1) c6))) j → RowB F.fW j ∨ w5.heap.size ≤ j from fun j hj => by
        rcases rowB_put hj with q | q
        · exact ROW.out j q
        · rcases G6.out.2 with e | e
          · rw [e] at q
            exact ROW.out j (VR.out j q)
          · have := e j q
            omega)
      clear AP hm7 k7 WRDa HVa G6 O6 OW6 NUM6 BYT6 KC6 WR6 LK WK ROW VR
      go_wp2
      go_roundw
      case rel => exact ⟨k + 1, n7, _, by omega, by go_num, Lib.hid ⟨OW7.out, NUM7.out, BYT7.out, WRD7.out, by omega, ROW7.out, KC7.out⟩⟩
      case measure => simp [intOf]; omega
    · obtain rfl : k = fr.length := by omega
      have OBF := Lib.hid KC.out.size
      have KF := Lib.hid (K6.out.trans KC.out)
      have SIN := Lib.hid (show StoreIn wr L ⟨fN', fB', fW'⟩ nW' C' (s.plus ⟨kind, sg, sp, fr, f, t, n⟩) from ⟨OW.out, NUM.out, BYT.out, by rw [← abTo_all]; exact WRD.out, DD.out.1, DD.out.2.1, DD.out.2.2.1, by show nW' ≤ 16 * (s.next + 1); omega⟩)
      have PI := Lib.hid (HI.out.plus hcb hno (by omega))
      have RB := Lib.hid (show ∀ k, Mut L ⟨fN', fB', fW'⟩ k ∨ C' k → B k ∨ w.heap.size ≤ k from fun k hk => by
        rcases hk with (e | e | e | e | e) | e
        · exact .inl (MC.out k (.inl (.inl e)))
        · exact .inl (MC.out k (.inl (.inr (.inl e))))
        · exact .inl (MC.out k (.inl (.inr (.inr (.inl e)))))
        · exact .inl (MC.out k (.inl (.inr (.inr (.inr (.inl e))))))
        · rcases ROW.out k e with q | q
          · exact .inl (MC.out k (.inl (.inr (.inr (.inr (.inr q))))))
          · exact .inr (by have := K6.out.size; omega)
        · exact CC.out k e)
      clear OW NUM BYT WRD KC
      go_wp2
      go_ret2
      refine ⟨fun k => (B k ∨ w.heap.size ≤ k) ∧ k < wr.heap.size, rfl, ⟨L, _, _, _, rfl, SIN.out, PI.out, fun k hk => ⟨RB.out k hk, SIN.out.lt hk⟩, fun k hk => hk.2⟩, KF.out, fun k hk => hk.1⟩
end Go.Proofs.YtdgmjablkdemmaaGreat
