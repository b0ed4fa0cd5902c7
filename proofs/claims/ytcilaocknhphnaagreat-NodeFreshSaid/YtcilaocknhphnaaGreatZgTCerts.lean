/-
  A store with one more certificate, in memory. Package store: Put. Package store: slices.DeleteFunc with drop's closure (by the shelf's contract). A store with one certificate less, in memory. Package store: drop. Package store: Sweep. Package store: Next. Package store: About, Certs. Package store: Certs.
-/
import Derived.Test.YtcilaocknhphnaaGreatZgRBase
import Derived.Test.YtcilaocknhphnaaGreatZgCSet
import Derived.Test.YtcilaocknhphnaaGreatZgTNew
import Derived.Shelf.SlicesE.DeleteFunc
import Derived.Shelf.SlGeneric
import Derived.Shelf.Lay
import Derived.Ground.SlgfProg
namespace Go.Proofs.YtcilaocknhphnaaGreat
open Go.RowKit Go.Maps
theorem zhn {c:zF} (h:Zj c=true):(Zk c).length<=400:=by
 have C:=ZO h;have L1:=zbo (z:=c.kind) (by have:=C.k7;omega);have L2:(zW c.sg).length<=9:=Zl 8 _ (by have:=C.sg;omega);have L3:=xV C.sp
 have hfl:c.fr.length<=16:=by
  obtain ⟨_,q,_⟩:=of_decide_eq_true C.fr;rwa [zU] at q
 have L4:=yS c.fr (fun x hx=>Zm C.fr hx);have L5:=zbo (z:=c.f) C.f1;have L6:=zbo (z:=c.t - c.f) (by have:=C.t1;have:=C.f0;omega);have L7:=zbo (z:=c.n) C.n1;unfold Zk xK;simp only [zlC,List.length_cons];omega
theorem yC.look_eq {P:Program} {k e t:TypeId} {w:World} {b n:Nat} {f:Lit->Option Value} (h:yC P k w b n f) (K:Keyed P k) (ht:P.underlying t=some (.map k e)) {z:Value} (hz:(zeroValue e).run P w=.ok z w) {key:Value} {kl:Lit} (hkey:keyOf P k key=some kl) {v:Value} (hv:(f kl).getD z=v):
  (Instr.lookup t (.map (some b)) key false).run P w=.ok v w:=by
 obtain ⟨D,h,_,q⟩:=h;obtain ⟨v',ps,hrun,hv'⟩:=h.lookup K ht hz (show zfp z=some (.held z,[]) from rfl) hkey;rw [xZ q,hv] at hv';have hv':=Xc hv';subst hv';exact hrun
theorem zaZ.no {w:World} {mN:Nat} {fN:Lit->Option Value} {C:Nat->Prop} {s:zB} (h:zaZ w mN fN C s):∀ k,C k->k≠mN:=fun k hk e=>by
 obtain ⟨cs,q⟩:=h.typ k hk;exact h.map.ne_cells q e
theorem zaZ.plus {w w':World} {mN n':Nat} {fN:Lit->Option Value} {C C2:Nat->Prop} {s:zB} {c:zF} {sa:Option Addr} {sc:Nat} (hi:zcl s) (h:zaZ w mN fN C s) (hc:Chg (·=mN) w w')
  (hm:yC Tryz.prog 3 w' mN n' (zay fN (.int .i64 (s.next:Int)) (some (Zn c (.slice sa c.fr.length sc))))) (hn:n'=s.certs.length+1) (hv:ZW w' (.slice sa c.fr.length sc) C2 c)
  (ht:∀ k,C2 k->∃ cs,w'.heap[k]? = some (.cells cs 29 (0,0))):
  zaZ w' mN (zay fN (.int .i64 (s.next:Int)) (some (Zn c (.slice sa c.fr.length sc)))) (fun k=>C k∨C2 k) (s.plus c):=by
 subst hn;refine ⟨?_,fun x hx=>?_,fun x d hx=>?_,fun k hk=>?_⟩
 ·have:(s.plus c).certs.length=s.certs.length+1:=by unfold zB.plus;simp
  rw [this];exact hm
 ·rw [zeD hi] at hx
  split at hx
  ·cases hx
  ·rename_i hne
   rw [Zg _ (fun e=>hne (by injection e))];exact h.noneS x hx
 ·rw [zeD hi] at hx
  split at hx
  ·rename_i e
   subst e;cases hx;exact ⟨sa,sc,yv _ _ _,⟨hv.set.up (fun k hk=>.inr hk),hv.sp,hv.sg⟩⟩
  ·rename_i hne
   obtain ⟨ra,rc,e,q⟩:=h.someS x d hx;have q2:=q.chg hc (fun k hk e=>h.no k hk e);exact ⟨ra,rc,by rw [Zg _ (fun e=>hne (by injection e))];exact e,⟨q2.set.up (fun k hk=>.inl hk),q2.sp,q2.sg⟩⟩
 ·rcases hk with hk | hk
  ·obtain ⟨cs,q⟩:=h.typ k hk
   exact ⟨cs,hc.obj (fun e=>h.no k hk e) q⟩
  ·exact ht k hk
theorem XY.plus {w':World} {mB n':Nat} {fB:Lit->Option Value} {s:zB} {c:zF} (h:∀ y,fB (.string y)=(s.numOf y).map (fun i=>.int .i64 (i:Int))) (hno:s.numOf (Zk c)=none)
  (hm:yC Tryz.prog 9 w' mB n' (zay fB (.string (Zk c)) (some (.int .i64 (s.next:Int))))) (hn:n'=s.certs.length+1):
  XY w' mB (zay fB (.string (Zk c)) (some (.int .i64 (s.next:Int)))) (s.plus c):=by
 subst hn;refine ⟨?_,fun y=>?_⟩
 ·have:(s.plus c).certs.length=s.certs.length+1:=by unfold zB.plus;simp
  rw [this];exact hm
 ·rw [zfs c hno]
  by_cases e:y=Zk c
  ·subst e
   rw [if_pos rfl,yv];rfl
  ·rw [if_neg e,Zg _ (fun q=>e (by injection q)),h]
def zhD (s:zB) (c:zF) (k:Nat) (x:ByteArray):List Nat:=if x∈c.fr.take k then s.about x++[s.next] else s.about x
theorem zhB (s:zB) (c:zF):zhD s c 0=s.about:=by funext x;unfold zhD;simp
theorem ziO (s:zB) (c:zF):zhD s c c.fr.length=(s.plus c).about:=by funext x;unfold zhD;rw [zlT,zft]
theorem zhC {s:zB} {c:zF} (hnd:c.fr.Nodup) {k:Nat} {x:ByteArray} (hx:c.fr[k]? = some x):zhD s c k x=s.about x∧zj0 (zhD s c k) x (s.about x++[s.next])=zhD s c (k+1):=by
 have hno:x ∉ c.fr.take k:=fun hm=>by
  obtain ⟨j,hj⟩:=List.mem_iff_getElem?.1 hm;rw [List.getElem?_take] at hj;split at hj
  ·have:=(List.getElem?_inj (zlA.1 hx).1 hnd).1 (hx.trans hj.symm)
   omega
  ·cases hj
 refine ⟨by unfold zhD;rw [if_neg hno],zgb ?_ (fun y hy=>?_)⟩
 ·unfold zhD;rw [if_pos]
  rw [zlR,hx];simp
 ·unfold zhD
  have:(y∈c.fr.take (k+1))↔y∈c.fr.take k:=by
   rw [zlR,hx];simp [hy]
  simp only [this]
theorem zfi {l:List ByteArray} (h:xw l=true):l.Nodup:=by
 obtain ⟨_,_,h3⟩:=of_decide_eq_true h;rw [zU] at h3
 have key:∀ d i,i+d+1 < l.length->Zs ((ZT l).getD i []) ((ZT l).getD (i+d+1) [])=true:=by
  intro d;induction d with
  | zero=>intro i hi;exact (h3 (i+1) hi).2 (by omega)
  | succ d ih=>
   intro i hi;exact ZH (ih i (by omega)) ((h3 (i+d+2) hi).2 (by omega))
 rw [List.nodup_iff_pairwise_ne,List.pairwise_iff_getElem];intro i j hi hj hij e;have:=key (j - i - 1) i (by omega);rw [show i+(j - i - 1)+1=j by omega,yp (zlz hi),yp (zlz hj),e,ZF] at this;cases this
theorem zhA {s:zB} (h:zcl s) (x:ByteArray):(s.about x).length<=200:=by
 unfold zB.about;rw [zlD];exact Nat.le_trans (List.length_filter_le _ _) (Nat.le_trans h.len h.room2)
theorem Yb.cells {w:World} {mW nW:Nat} {fW:Lit->Option Value} {ab:ByteArray->List Nat} (h:Yb w mW nW fW ab) {k:Nat} (hk:zes fW k):∃ cs,w.heap[k]? = some (.cells cs 3 (0,0)):=by
 obtain ⟨x,v,hv,hk⟩:=hk;exact zM (h.row hv).1 hk
theorem Yb.rowD {w:World} {mW nW:Nat} {fW:Lit->Option Value} {ab:ByteArray->List Nat} (h:Yb w mW nW fW ab) (x:ByteArray):∃ v,(fW (zar x)).getD (.slice none 0 0)=v∧w.ownsRow 0 3 1 v (ab x).length (zac (ab x))∧∀ k,v.ownBlock=some k->zes fW k:=by
 cases hx:fW (zar x) with
 | none=>
  have:ab x=[]:=by
   refine Classical.byContradiction fun q=>?_;obtain ⟨v,e,_⟩:=h.rowS x q;rw [hx] at e;cases e
  rw [this];exact ⟨_,rfl,World.ownsRow_nil _ _ _ _,fun k hk=>by cases hk⟩
 | some v=>exact ⟨v,rfl,(h.row hx).1,fun k hk=>⟨x,v,hx,hk⟩⟩
theorem zfb {w:World} {a k:Nat} {cs ds:Array Value} {t u:TypeId} {f g:Nat × Nat} (h:w.heap[a]? = some (.cells cs t f)) (h2:w.heap[k]? = some (.cells ds u g)) (hn:t≠u):a≠k:=by
 rintro rfl;rw [h] at h2;cases h2;exact hn rfl
structure zjQ (L:zjL) (fW:Lit->Option Value) (C:Nat->Prop):Prop where
  cb:∀ k,C k->k≠L.b
  cN:∀ k,C k->k≠L.mN
  cB:∀ k,C k->k≠L.mB
  cW:∀ k,C k->k≠L.mW
  rb:∀ k,zes fW k->k≠L.b
  rN:∀ k,zes fW k->k≠L.mN
  rB:∀ k,zes fW k->k≠L.mB
  rW:∀ k,zes fW k->k≠L.mW
  rC:∀ k,zes fW k->¬ C k
  bN:L.b≠L.mN
  bB:L.b≠L.mB
  bW:L.b≠L.mW
theorem zal {w:World} {L:zjL} {fN fB fW:Lit->Option Value} {C:Nat->Prop} {s:zB} {cs:Array Value} {nW:Nat} {ab:ByteArray->List Nat} {mb:Nat} (h1:w.heap[L.b]? = some (.cells cs 272 (0,0))) (h2:zaZ w L.mN fN C s) (h3:yC Tryz.prog 9 w L.mB mb fB) (h4:Yb w L.mW nW fW ab):zjQ L fW C:=by
 refine ⟨fun k hk=>?_,fun k hk=>?_,fun k hk=>?_,fun k hk=>?_,fun k hk=>?_,fun k hk=>?_,fun k hk=>?_,fun k hk=>?_,fun k hk hc=>?_,?_,?_,?_⟩
 ·obtain ⟨ds,q⟩:=h2.typ k hk
  exact zfb q h1 (by decide)
 ·obtain ⟨ds,q⟩:=h2.typ k hk
  exact h2.map.ne_cells q
 ·obtain ⟨ds,q⟩:=h2.typ k hk
  exact h3.ne_cells q
 ·obtain ⟨ds,q⟩:=h2.typ k hk
  exact h4.map.ne_cells q
 ·obtain ⟨ds,q⟩:=h4.cells hk
  exact zfb q h1 (by decide)
 ·obtain ⟨ds,q⟩:=h4.cells hk
  exact h2.map.ne_cells q
 ·obtain ⟨ds,q⟩:=h4.cells hk
  exact h3.ne_cells q
 ·obtain ⟨ds,q⟩:=h4.cells hk
  exact h4.map.ne_cells q
 ·obtain ⟨ds,q⟩:=h4.cells hk
  obtain ⟨es,q2⟩:=h2.typ k hc;exact zfb q q2 (by decide) rfl
 ·exact h2.map.ne_cells h1
 ·exact h3.ne_cells h1
 ·exact h4.map.ne_cells h1
def zi5 (w:World) (b:Nat) (B:Nat->Prop) (r:Nat × Nat × zB) (e:Ending) (w':World):Prop:=
  ∃ B',e=.returned (.tuple #[.int .i64 (r.1:Int),.int .i64 (r.2.1:Int)])∧Zz w' b B' r.2.2∧Chg B w w'∧∀ k,B' k->B k∨w.heap.size<=k
theorem zh3 {s:zB} {c:zF} (h:Zj c=false):zfq s c=(0,2,s):=by unfold zfq;rw [if_neg (by rw [h];decide)]
theorem zh2 {s:zB} {c:zF} {i:Nat} (h:Zj c=true) (hn:s.numOf (Zk c)=some i):zfq s c=(i,0,s):=by unfold zfq;rw [if_pos h,hn]
theorem zgD {s:zB} {c:zF} (h:Zj c=true) (hn:s.numOf (Zk c)=none) (hr:s.room<=s.certs.length):zfq s c=(0,3,s):=by unfold zfq;rw [if_pos h,hn];simp only;rw [if_pos hr]
theorem zeC {s:zB} {c:zF} (h:Zj c=true) (hn:s.numOf (Zk c)=none) (hr:¬ s.room<=s.certs.length):zfq s c=(s.next,0,s.plus c):=by unfold zfq;rw [if_pos h,hn];simp only;rw [if_neg hr]
theorem zgN {s:zB} (h:zcl s):s.get (s.next:Int)=none:=by
 cases hq:s.get (s.next:Int) with
 | none=>rfl
 | some d=>
  obtain ⟨i,e,hm⟩:=zca hq;have:=h.lt _ hm;simp only at this;omega
set_option maxHeartbeats 8000000 in
set_option maxRecDepth 100000 in
theorem zew (w:World) (b:Nat) (B:Nat->Prop) (s:zB) (c:zF) (sa:Option Addr) (sc:Nat) (G:Nat->Prop) (h:Zz w b B s) (hc:ZW w (.slice sa c.fr.length sc) G c) (hG:∀ k,G k->k < w.heap.size∧¬ B k) (hn:s.next<=1000000) (ht:s.turn<=1000000):
  Calls Tryz.prog 150 #[.pointer (some ⟨b,0,none⟩),Zn c (.slice sa c.fr.length sc)] w (zi5 w b B (zfq s c)):=by
 have k0:=zi (fun _=>False) w (.cells #[.int .i64 c.kind,.int .u16 (c.sg:Int),.string c.sp,.slice sa c.fr.length sc,.int .i64 c.f,.int .i64 c.t,.int .i64 c.n] 103);have OB:=zf (zh w (.cells #[.int .i64 c.kind,.int .u16 (c.sg:Int),.string c.sp,.slice sa c.fr.length sc,.int .i64 c.f,.int .i64 c.t,.int .i64 c.n] 103));have hsz:w.heap.size < (w.alloc (.cells #[.int .i64 c.kind,.int .u16 (c.sg:Int),.string c.sp,.slice sa c.fr.length sc,.int .i64 c.f,.int .i64 c.t,.int .i64 c.n] 103)).heap.size:=by rw [zlH];omega
 have HC:=zf (hc.chg k0 (fun _ _ e=>e));have EN:=zf (xt _ c sa sc G HC.out (fun k hk=>by have:=(hG k hk).1;omega));have HG:=zf hG;have K0:=zf k0;have hi:=h.inv;have HB:=zf (fun k (hk:B k)=>h.lt hk);have PB:=zf (fun e:Zj c=false=>zh3 (s:=s) e);have PH:=zf (fun (e:Zj c=true) i (q:s.numOf (Zk c)=some i)=>zh2 e q);have PF:=zf (fun (e:Zj c=true) (q:s.numOf (Zk c)=none) (r:s.room<=s.certs.length)=>zgD e q r);have PN:=zf (fun (e:Zj c=true) (q:s.numOf (Zk c)=none) (r:¬ s.room<=s.certs.length)=>zeC e q r);have CL:=zf (fun e:Zj c=true=>zhn e);have CM:=zf (fun e:Zj c=true=>ZO e);have HI:=zf hi;have SAME:=zf (fun (w':World) (k:Chg (fun _=>False) w w')=>(⟨B,h.chg k (fun _ _ e=>e),k.mono (fun _ _ e=>e.elim),fun _ q=>.inl q⟩:∃ B',Zz w' b B' s∧Chg B w w'∧∀ k,B' k->B k∨w.heap.size<=k));generalize zfq s c=res at *;have CV:=zf (show Zn c=fun v=>Zn c v from rfl);obtain ⟨L,F,nW,C,rfl,h1,_,hMC,_⟩:=h;have HS:=zf h1;have MC:=zf hMC;have hr:=hi.room2;have hle:=hi.len;have ENC:=zf (show XX=fun w c b e w'=>XX w c b e w' from rfl);clear h1 hMC hc hG k0 hi ENC CV;obtain ⟨kind,sg,sp,fr,f,t,n⟩:=c;unfold Zn XX at EN;unfold Zn;simp only at OB hsz HC EN HG K0 PB PH PF PN CL CM ⊢;have p0:=zg (o:=0) OB.out rfl;have p1:=zg (o:=1) OB.out rfl;have p2:=zg (o:=2) OB.out rfl;have p3:=zg (o:=3) OB.out rfl;have p4:=zg (o:=4) OB.out rfl;have p5:=zg (o:=5) OB.out rfl;have p6:=zg (o:=6) OB.out rfl;go_enter Tryz.func150,Tryz.ntmps150;go_wp2_with fail;generalize hw0:w.alloc (.cells #[.int .i64 kind,.int .u16 (sg:Int),.string sp,.slice sa fr.length sc,.int .i64 f,.int .i64 t,.int .i64 n] 103)=w0 at *;clear hw0 p0 p1 p2 p3 p4 p5 p6;(with_reducible refine EN.out.mono ?_);rintro e w1 ⟨(⟨hcb,rfl⟩ | ⟨hcb,k,hk,rfl⟩),k1⟩
 rotate_left
 ·have K1:=zf (K0.out.trans k1)
  have g1:decide (k=0)=false:=zly hk;have g2:(k != 0)=true:=by simpa using hk
  have R:=PB.out hcb;subst R;clear k1 EN HC hcb;go_wp2;go_ret2;obtain ⟨B',q1,q2,q3⟩:=SAME.out _ K1.out;exact ⟨B',rfl,q1,q2,q3⟩
 have K1:=zf (K0.out.trans k1);obtain ⟨ce,hce⟩:∃ ce:ByteArray,ce=⟨(Zk ⟨kind,sg,sp,fr,f,t,n⟩).toArray⟩:=⟨_,rfl⟩;have hcd:Zk ⟨kind,sg,sp,fr,f,t,n⟩=ce.data.toList:=by rw [hce]
 have hcs:ce.size<=400:=by have:=CL.out hcb;rw [hcd,zz] at this;exact this
 rw [<- hce];have HCD:=zf hcd;clear hce hcd;have KEY:=zf (zjg ce (by unfold maxLen;omega));have H1:=zf (HS.out.chg K1.out (fun _ _ e=>e));have OB1:=zf (k1.obj (fun e=>e) OB.out);have HC1:=zf (HC.out.chg k1 (fun _ _ e=>e));clear HS EN HC OB k1;have c0:w1.cell? ⟨L.b,0,none⟩=some (.int .i64 (s.room:Int)):=zg H1.out.own rfl;have c1:w1.cell? ⟨L.b,1,none⟩=some (.int .i64 (s.next:Int)):=zg H1.out.own rfl;have c2:w1.cell? ⟨L.b,2,none⟩=some (.int .i64 (s.turn:Int)):=zg H1.out.own rfl;have c3:w1.cell? ⟨L.b,3,none⟩=some (.map (some L.mN)):=zg H1.out.own rfl;have c4:w1.cell? ⟨L.b,4,none⟩=some (.map (some L.mB)):=zg H1.out.own rfl;have ZI:=zf (Tryz.zeroInt);have BS:=zf (H1.out.byt.says ce.data.toList);cases hno:s.numOf (Zk ⟨kind,sg,sp,fr,f,t,n⟩) with
 | some i=>
  have hf:F.fB (.string ce.data.toList)=some (.int .i64 (i:Int)):=by rw [BS.out,<- HCD.out,hno];rfl
  have R:=PH.out hcb i hno;subst R;go_wp2_with (at_lookup;refine yr rfl (.tmp 24) (.tmp 25) 269 rfl 9 3 Tryz.strKeyed Tryz.underlying269 _ (ZI.out _) L.mB s.certs.length F.fB rfl H1.out.byt.map _ _ rfl KEY.out (.int .i64 (i:Int)) true (by rw [hf];rfl) (by rw [hf];rfl) ?_);go_ret2;obtain ⟨B',q1,q2,q3⟩:=SAME.out _ K1.out;exact ⟨B',rfl,q1,q2,q3⟩
 | none=>
 have hf:F.fB (.string ce.data.toList)=none:=by rw [BS.out,<- HCD.out,hno];rfl
 have HF:=zf hf;clear BS;go_wp2_with (at_lookup;refine yr rfl (.tmp 24) (.tmp 25) 269 rfl 9 3 Tryz.strKeyed Tryz.underlying269 _ (ZI.out _) L.mB s.certs.length F.fB rfl H1.out.byt.map _ _ rfl KEY.out (.int .i64 0) false (by rw [hf];rfl) (by rw [hf];rfl) ?_);clear hf;go_wp2_with fail;have hlen:=(H1.out.num.map.chg (zy (fun _=>False) w1) (fun e=>e)).len Tryz.underlying268;have e0:w1.drew.cell? ⟨L.b,0,none⟩=some (.int .i64 (s.room:Int)):=c0;have e3:w1.drew.cell? ⟨L.b,3,none⟩=some (.map (some L.mN)):=c3;refine zP (by kernel_rfl) (by kernel_rfl) ?_
 repeat still_step
 refine wpStill_nil ?_;clear hlen;have H2:=zf (H1.out.chg (zy (fun _=>False) w1) (fun _ _ e=>e));have K2:=zf K1.out.drew;have OB2:=zf ((zy (fun _=>False) w1).obj (fun e=>e) OB1.out);have HC2:=zf (HC1.out.chg (zy (fun _=>False) w1) (fun _ _ e=>e));have e1:w1.drew.cell? ⟨L.b,1,none⟩=some (.int .i64 (s.next:Int)):=c1;have e2:w1.drew.cell? ⟨L.b,2,none⟩=some (.int .i64 (s.turn:Int)):=c2;have f1:=zk (o:=1) H2.out.own;have f2:=zk (o:=2) H2.out.own;clear c0 c1 c2 c3 c4 H1 K1 OB1 HC1;generalize w1.drew=wd at *;by_cases hfull:s.room<=s.certs.length
 ·have g1:decide ((s.room:Int)<=(s.certs.length:Int))=true:=zlx (by omega)
  have g2:decide (s.room<=s.certs.length)=true:=zlx hfull;have R:=PF.out hcb hno hfull;subst R;go_wp2;go_ret2;obtain ⟨B',q1,q2,q3⟩:=SAME.out _ K2.out;exact ⟨B',rfl,q1,q2,q3⟩
 have g1:decide ((s.room:Int)<=(s.certs.length:Int))=false:=zly (by omega);have g2:decide (s.room<=s.certs.length)=false:=zly hfull;have R:=PN.out hcb hno hfull;subst R;have x1:IntKind.i64.wrap ((s.next:Int)+1)=(s.next:Int)+1:=by rw [IntKind.wrap_i64];omega
 have x2:IntKind.i64.wrap ((s.turn:Int)+1)=(s.turn:Int)+1:=by rw [IntKind.wrap_i64];omega
 go_wp2_with fail;obtain ⟨w2,hw2⟩:∃ w2,w2=(wd.setCell ⟨L.b,1,none⟩ (.int .i64 ((s.next:Int)+1))).setCell ⟨L.b,2,none⟩ (.int .i64 ((s.turn:Int)+1)):=⟨_,rfl⟩;rw [<- hw2]
 have own2:w2.heap[L.b]? = some (.cells (storeCells (s.plus ⟨kind,sg,sp,fr,f,t,n⟩) L) 272 (0,0)):=by
  rw [hw2];exact zq (o:=2) (zq (o:=1) H2.out.own (.int .i64 ((s.next:Int)+1))) (.int .i64 ((s.turn:Int)+1))
 have kw:Chg (·=L.b) wd w2:=by
  rw [hw2];exact (zA wd L.b 1 _).trans (zA _ L.b 2 _)
 have AP:=zal H2.out.own H2.out.num H2.out.byt.map H2.out.wrd;have HA:=zf AP;have hbB:B L.b:=MC.out _ (.inl (.inl rfl));have nb:w.heap.size≠L.b:=fun e=>by have:=HB.out _ hbB;omega
 have HN2:=zf (H2.out.num.chg kw (fun e=>AP.bN e.symm) (fun k hk=>AP.cb k hk));have HY2:=zf (H2.out.byt.chg kw (fun e=>AP.bB e.symm));have HW2:=zf (H2.out.wrd.chg kw (fun e=>AP.bW e.symm) (fun k hk=>AP.rb k hk));have OB3:=zf (kw.obj nb OB2.out);have HC3:=zf (HC2.out.chg kw (fun k hk e=>(HG.out k hk).2 (by rw [e];exact hbB)));have K3:=zf (show Chg B w w2 from (K2.out.mono (fun _ _ e=>e.elim)).trans (kw.mono (fun k hk e=>by rw [e];exact hbB)));have DD:=zf (And.intro H2.out.d1 (And.intro H2.out.d2 (And.intro H2.out.d3 H2.out.bnd)));have OW:=zf own2;have hws2:w.heap.size < w2.heap.size:=zu OB3.out;clear hw2 own2 kw AP H2 OB2 HC2 K2 e0 e1 e2 e3 f1 f2 x1 x2;have c3:w2.drew.cell? ⟨L.b,3,none⟩=some (.map (some L.mN)):=zg OW.out rfl;have c4:w2.drew.cell? ⟨L.b,4,none⟩=some (.map (some L.mB)):=zg OW.out rfl;have k4':=zy (fun _=>False) w2;have p0:=zg (o:=0) (k4'.obj (fun e=>e) OB3.out) rfl;have p1:=zg (o:=1) (k4'.obj (fun e=>e) OB3.out) rfl;have p2:=zg (o:=2) (k4'.obj (fun e=>e) OB3.out) rfl;have p3:=zg (o:=3) (k4'.obj (fun e=>e) OB3.out) rfl;have p4:=zg (o:=4) (k4'.obj (fun e=>e) OB3.out) rfl;have p5:=zg (o:=5) (k4'.obj (fun e=>e) OB3.out) rfl;have p6:=zg (o:=6) (k4'.obj (fun e=>e) OB3.out) rfl;clear k4';refine Zf (N:=95) [.rd [0,1,2,3,4,5],.ef 6,.ef 7] 7 (fun w'=>w'.cell? ⟨L.b,3,none⟩=some (.map (some L.mN))∧w'.cell? ⟨w.heap.size,0,none⟩=some (.int .i64 kind)∧w'.cell? ⟨w.heap.size,1,none⟩=some (.int .u16 (sg:Int))∧w'.cell? ⟨w.heap.size,2,none⟩=some (.string sp)∧w'.cell? ⟨w.heap.size,3,none⟩=some (.slice sa fr.length sc)∧w'.cell? ⟨w.heap.size,4,none⟩=some (.int .i64 f)∧w'.cell? ⟨w.heap.size,5,none⟩=some (.int .i64 t)∧w'.cell? ⟨w.heap.size,6,none⟩=some (.int .i64 n)) (by kernel_rfl) (by kernel_rfl) (by kernel_rfl) (by kernel_rfl) (by kernel_rfl) (Nat.le_of_ble_eq_true rfl) ⟨c3,p0,p1,p2,p3,p4,p5,p6⟩ ?_;refine Yg (A:=?A1) ?h1 ?h2
 case h1=>
  rintro w' ⟨z0,z1,z2,z3,z4,z5,z6,z7⟩ K hK;simp only [zS,zls,zlt,zlu,zlv,zlw]
  repeat still_step
  refine wpStill_nil ?_;exact hK
 have k4:=zy (fun _=>False) w2;have OW:=zf (k4.obj (fun e=>e) OW.out);have HN2:=zf (HN2.out.chg k4 (fun e=>e) (fun _ _ e=>e));have HY2:=zf (HY2.out.chg k4 (fun e=>e));have HW2:=zf (HW2.out.chg k4 (fun e=>e) (fun _ _ e=>e));have OB3:=zf (k4.obj (fun e=>e) OB3.out);have HC3:=zf (HC3.out.chg k4 (fun _ _ e=>e));have K3:=zf (K3.out.drew);have hws2:w.heap.size < w2.drew.heap.size:=hws2;have hfrm:=ZO hcb
 have hf16:fr.length<=16:=by
  obtain ⟨_,q,_⟩:=of_decide_eq_true hfrm.fr;rw [zU] at q;exact q
 have hf1:1<=fr.length:=by
  obtain ⟨q,_⟩:=of_decide_eq_true hfrm.fr;rw [zU] at q;exact q
 have FND:=zf (zfi hfrm.fr)
 have FSZ:=zf (show ∀ x∈fr,x.size<=maxLen from fun x hx=>by
  have:=(Zq (Zm hfrm.fr hx)).1;unfold maxLen;omega)
 obtain ⟨g,o,rfl,hgG⟩:=HC3.out.set.some (by simp only;omega);have CLN:=zf (zbF w2.drew ⟨kind,sg,sp,fr,f,t,n⟩ g o sc G HC3.out.set.at_ (by simp only;omega));unfold Zn at CLN;simp only at CLN;clear k4 hfrm c3 c4 p0 p1 p2 p3 p4 p5 p6;generalize w2.drew=w2d at *;refine zG rfl ?_;go_wp2_with fail;(with_reducible refine CLN.out.mono ?_);rintro e w3 ⟨v3,rfl,o3,k3⟩;obtain ⟨a3,c3,rfl⟩:=zl o3;have OW3:=zf (k3.obj (fun e=>e) OW.out);have d3:w3.cell? ⟨L.b,3,none⟩=some (.map (some L.mN)):=zg OW3.out rfl;have p0:=zg (o:=0) (k3.obj (fun e=>e) OB3.out) rfl;have p1:=zg (o:=1) (k3.obj (fun e=>e) OB3.out) rfl;have p2:=zg (o:=2) (k3.obj (fun e=>e) OB3.out) rfl;have p3:=zg (o:=3) (k3.obj (fun e=>e) OB3.out) rfl;have p4:=zg (o:=4) (k3.obj (fun e=>e) OB3.out) rfl;have p5:=zg (o:=5) (k3.obj (fun e=>e) OB3.out) rfl;have p6:=zg (o:=6) (k3.obj (fun e=>e) OB3.out) rfl;go_wp2_with fail;refine ⟨.inr ⟨d3,p0,p1,p2,p3,p4,p5,p6⟩,?_⟩;clear d3 p0 p1 p2 p3 p4 p5 p6;have HN3:=zf (HN2.out.chg k3 (fun e=>e) (fun _ _ e=>e));have HY3:=zf (HY2.out.chg k3 (fun e=>e));have HW3:=zf (HW2.out.chg k3 (fun e=>e) (fun _ _ e=>e));have OB4:=zf (k3.obj (fun e=>e) OB3.out);have HC4:=zf (HC3.out.chg k3 (fun _ _ e=>e));have K4:=zf (K3.out.trans (k3.mono (fun _ _ e=>e.elim)));have O3:=zf o3;clear HN2 HY2 HW2 OB3 HC3 K3 o3 k3 OW CLN;refine zG rfl ?_;have NK:=zf (zg3 (s.next:Int) (by omega) (by omega));refine yk rfl (.tmp 62) (.tmp 63) (.tmp 65) 268 rfl 3 103 Tryz.intKeyed Tryz.underlying268 L.mN s.certs.length F.fN rfl HN3.out.map ?e1 _ _ _ rfl rfl NK.out ?e2
 case e1=>unfold maxLen;omega
 intro w4 n4 hm4 _ hn4 _ k4;refine ⟨.inl rfl,ZM ?_⟩;have AP:=zal OW3.out HN3.out HY3.out.map HW3.out;have hbN:B L.mN:=MC.out _ (.inl (.inr (.inl rfl)));have SA:=ya O3.out FSZ.out
 have c2n:∀ k,(Value.slice a3 fr.length c3).ownBlock=some k->k≠L.mN:=fun k hk=>by
  obtain ⟨cs,q⟩:=zM O3.out hk;exact HN3.out.map.ne_cells q
 have NUM4:=zf (HN3.out.plus (c:=⟨kind,sg,sp,fr,f,t,n⟩) HI.out k4 hm4 (hn4 (by rw [HN3.out.noneS _ (zgN HI.out)];rfl)) ⟨SA.chg k4 c2n,HC4.out.sp,HC4.out.sg⟩ (fun k hk=>by
   obtain ⟨cs,q⟩:=zM O3.out hk;exact ⟨cs,k4.obj (c2n k hk) q⟩))
 have BYT4:=zf (HY3.out.chg k4 (fun e=>DD.out.1 e.symm));have WRD4:=zf (HW3.out.chg k4 (fun e=>DD.out.2.1 e.symm) (fun k hk=>AP.rN k hk));have OW4:=zf (k4.obj AP.bN OW3.out);have OB5:=zf (k4.obj (fun e=>by have:=HB.out _ hbN;omega) OB4.out);have HC5:=zf (HC4.out.chg k4 (fun k hk e=>(HG.out k hk).2 (by rw [e];exact hbN)));have K5:=zf (K4.out.trans (k4.mono (fun k hk e=>by rw [e];exact hbN)));have NW3:=zf (show ∀ k,(Value.slice a3 fr.length c3).ownBlock=some k->w.heap.size<=k from fun k hk=>by have:=(O3.out.lt k hk).1;omega);clear AP SA c2n hm4 hn4 k4 HN3 HY3 HW3 OW3 OB4 HC4 K4 O3 NK;generalize hfN:zay F.fN (.int .i64 (s.next:Int)) (some (Zn ⟨kind,sg,sp,fr,f,t,n⟩ (.slice a3 fr.length c3)))=fN' at *;generalize hC2:(fun k=>C k∨(Value.slice a3 fr.length c3).ownBlock=some k)=C' at *
 have CC:=zf (show ∀ k,C' k->B k∨w.heap.size<=k from fun k hk=>by
  rw [<- hC2] at hk;rcases hk with e | e
  ·exact .inl (MC.out k (.inr e))
  ·exact .inr (NW3.out k e))
 clear hfN hC2 NW3;have d4:w4.cell? ⟨L.b,4,none⟩=some (.map (some L.mB)):=zg OW4.out rfl;go_wp2_with (at_mapUpdate;refine yk rfl (.tmp 69) (.tmp 70) (.tmp 71) 269 rfl 9 3 Tryz.strKeyed Tryz.underlying269 L.mB s.certs.length F.fB rfl BYT4.out.map ?b1 (.string ce) (.int .i64 (s.next:Int)) (.string ce.data.toList) rfl rfl KEY.out ?b2)
 case b1=>unfold maxLen;omega
 intro w5 n5 hm5 _ hn5 _ k5;have AP:=zal OW4.out NUM4.out BYT4.out.map WRD4.out;have hbY:B L.mB:=MC.out _ (.inl (.inr (.inr (.inl rfl))));rw [<- HCD.out] at hm5;have BYT5:=zf (XY.plus (c:=⟨kind,sg,sp,fr,f,t,n⟩) BYT4.out.says hno hm5 (hn5 (by rw [HF.out])));have NUM5:=zf (NUM4.out.chg k5 DD.out.1 (fun k hk=>AP.cB k hk));have WRD5:=zf (WRD4.out.chg k5 (fun e=>DD.out.2.2.1 e.symm) (fun k hk=>AP.rB k hk));have OW5:=zf (k5.obj AP.bB OW4.out);have OB6:=zf (k5.obj (fun e=>by have:=HB.out _ hbY;omega) OB5.out);have HC6:=zf (HC5.out.chg k5 (fun k hk e=>(HG.out k hk).2 (by rw [e];exact hbY)));have K6:=zf (K5.out.trans (k5.mono (fun k hk e=>by rw [e];exact hbY)));clear AP hm5 hn5 k5 NUM4 BYT4 WRD4 OW4 OB5 HC5 K5 d4 KEY HF HCD;generalize hfB:zay F.fB (.string (Zk ⟨kind,sg,sp,fr,f,t,n⟩)) (some (.int .i64 (s.next:Int)))=fB' at *;clear hfB;have q3:=zg (o:=3) OB6.out rfl;have SPL:=zf (show s.plus ⟨kind,sg,sp,fr,f,t,n⟩=s.plus ⟨kind,sg,sp,fr,f,t,n⟩ from rfl);clear SPL;go_wp2_with fail;clear q3;go_loopw [75] (fun iv wr=>∃ (k:Nat) (nW':Nat) (fW':Lit->Option Value),k<=fr.length∧iv=.int .i64 k∧Hid (wr.heap[L.b]? = some (.cells (storeCells (s.plus ⟨kind,sg,sp,fr,f,t,n⟩) L) 272 (0,0))∧zaZ wr L.mN fN' C' (s.plus ⟨kind,sg,sp,fr,f,t,n⟩)∧XY wr L.mB fB' (s.plus ⟨kind,sg,sp,fr,f,t,n⟩)∧Yb wr L.mW nW' fW' (zhD s ⟨kind,sg,sp,fr,f,t,n⟩ k)∧nW'<=16*s.next+k∧(∀ j,zes fW' j->zes F.fW j∨w5.heap.size<=j)∧Chg B w5 wr)) (fun iv _=>fr.length - (intOf iv).toNat)
 case atStart=>exact ⟨0,nW,F.fW,by omega,rfl,zf ⟨OW5.out,NUM5.out,BYT5.out,by rw [zhB];exact WRD5.out,by have:=DD.out.2.2.2;omega,fun j hj=>.inl hj,Chg.refl _ _⟩⟩
 case round=>
  obtain ⟨k,nW',fW',hk,rfl,HI2⟩:=hrel;clear OW5 NUM5 BYT5 WRD5;have HR:=HI2.out;obtain ⟨ow,num,byt,wrd,hnw,hrow,kc⟩:=HR;have OW:=zf ow;have NUM:=zf num;have BYT:=zf byt;have WRD:=zf wrd;have ROW:=zf hrow;have KC:=zf kc;clear HI2 ow num byt wrd hrow kc;by_cases hlt:k < fr.length
  ·obtain ⟨x,hx⟩:∃ x,fr[k]? = some x:=⟨_,zlz hlt⟩
   obtain ⟨_,_,e1,_,hcl⟩:=(HC6.out.set.chg KC.out (fun k hk e=>(HG.out k hk).2 e)).at_;cases e1;obtain ⟨lb,lo,e2,_,c0,hxs⟩:=hcl k x hx;cases e2;obtain ⟨hab,hab2⟩:=zhC (s:=s) (c:=⟨kind,sg,sp,fr,f,t,n⟩) FND.out hx;have AB:=zf (And.intro hab hab2);clear hcl hx hab hab2;go_wp2_with fail;obtain ⟨v,hv,hov,hvr⟩:=WRD.out.rowD x;rw [AB.out.1] at hov;obtain ⟨va,vc,rfl⟩:=zl hov;have HV:=zf (And.intro hv hov);have VR:=zf hvr;have hal:=zhA HI.out x;have WK:=zf (zi7 x hxs);have ZS:=zf (Tryz.zeroInts);have LK:=zf (fun (w':World) (m:yC Tryz.prog 29 w' L.mW nW' fW')=>m.look_eq Tryz.wordKeyed Tryz.underlying270 (ZS.out w') (show keyOf Tryz.prog 29 (.string x)=some (zar x) from WK.out) hv);have d5:wr.drew.cell? ⟨L.b,5,none⟩=some (.map (some L.mW)):=zg OW.out rfl;have kd:=zy (fun _=>False) wr;have lk0:=LK.out _ (WRD.out.map.chg kd (fun e=>e));clear hv hov hvr c0 hxs;refine Zf (N:=95) [.rd [0,1,2,3,4,5,6,7,8,9,10,11],.ef 12,.ef 13,.ef 14] 14 (fun w'=>w'.cell? ⟨L.b,5,none⟩=some (.map (some L.mW))∧(Instr.lookup 270 (.map (some L.mW)) (.string x) false).run Tryz.prog w'=.ok (.slice va (s.about x).length vc) w') (by kernel_rfl) (by kernel_rfl) (by kernel_rfl) (by kernel_rfl) (by kernel_rfl) (Nat.le_of_ble_eq_true rfl) ⟨d5,lk0⟩ ?_;refine Yg (A:=?A2) ?g1 ?g2
   case g1=>
    rintro w' ⟨z0,z1⟩ K hK;simp only [zS,zls,zlt,zlu,zlv,zlw]
    repeat still_step
    refine wpStill_nil ?_;exact hK
   have OWd:=zf (kd.obj (fun e=>e) OW.out);have NUMd:=zf (NUM.out.chg kd (fun e=>e) (fun _ _ e=>e));have BYTd:=zf (BYT.out.chg kd (fun e=>e));have WRDd:=zf (WRD.out.chg kd (fun e=>e) (fun _ _ e=>e));have HVd:=zf (And.intro HV.out.1 (zo HV.out.2 kd (fun _ _ e=>e)));have KCd:=zf (KC.out.drew);clear kd lk0 d5 OW NUM BYT WRD KC HV;generalize wr.drew=wd2 at *;refine zG rfl ?_;go_wp2_with fail;have ka:=zi (fun _=>False) wd2 (.cells #[.int .i64 (s.next:Int)] 3);have OWa:=zf (ka.obj (fun e=>e) OWd.out);have NUMa:=zf (NUMd.out.chg ka (fun e=>e) (fun _ _ e=>e));have BYTa:=zf (BYTd.out.chg ka (fun e=>e));have WRDa:=zf (WRDd.out.chg ka (fun e=>e) (fun _ _ e=>e));have HVa:=zf (And.intro HVd.out.1 (zo HVd.out.2 ka (fun _ _ e=>e)));have KCa:=zf (KCd.out.trans (ka.mono (fun _ _ e=>e.elim)));have obn:=zh wd2 (.cells #[.int .i64 (s.next:Int)] 3);refine ⟨.inr ⟨zg OWa.out rfl,LK.out _ WRDa.out.map⟩,?_⟩;clear ka OWd NUMd BYTd WRDd HVd KCd;refine zG rfl ?_;refine zK rfl (.tmp 89) (.tmp 91) 226 rfl 3 1 8 Tryz.underlying226 Tryz.elemInt 0 _ (s.about x).length (zac (s.about x)) rfl HVa.out.2 wd2.heap.size [.int .i64 (s.next:Int)] 3 (0,0) rfl obn rfl (by intro u hu;simp at hu;subst hu;rfl) (by omega) (by unfold maxLen;omega) (Nat.zero_le _) ?_;generalize wd2.alloc (.cells #[.int .i64 (s.next:Int)] 3)=wa at *;intro v6 w6 o6 g6 sn6;obtain ⟨a6,c6,rfl⟩:=zl o6;have k6:=Chg.of_grown g6;have AP:=zal OWa.out NUMa.out BYTa.out.map WRDa.out;have WR6:=zf (WRDa.out.map.chg k6 (fun e=>AP.rW _ (VR.out _ e) rfl));have OW6:=zf (k6.obj (fun e=>AP.rb _ (VR.out _ e) rfl) OWa.out);have NUM6:=zf (NUMa.out.chg k6 (fun e=>AP.rN _ (VR.out _ e) rfl) (fun k hk e=>AP.rC k (VR.out _ e) hk));have BYT6:=zf (BYTa.out.chg k6 (fun e=>AP.rB _ (VR.out _ e) rfl))
   have KC6:=zf (KCa.out.next k6 (fun k hk e=>by
    rcases ROW.out k (VR.out _ e) with q | q
    ·exact MC.out k (.inl (.inr (.inr (.inr (.inr q)))))
    ·omega))
   have O6:=zf (show w6.ownsRow 0 3 1 (.slice a6 ((s.about x).length+1) c6) (s.about x++[s.next]).length (zac (s.about x++[s.next])) from by
    unfold zac at *;rw [List.map_append,zlC];exact o6)
   have G6:=zf (And.intro k6 sn6);have hs5:w5.heap.size<=wa.heap.size:=KCa.out.size;clear o6 g6 sn6 k6 OWa BYTa NUMa KCa;go_wp2_with fail;refine ⟨.inr ⟨zg OW6.out rfl,LK.out _ WR6.out⟩,?_⟩;refine zG rfl ?_;refine yk rfl (.tmp 82) (.tmp 83) (.tmp 92) 270 rfl 29 226 Tryz.wordKeyed Tryz.underlying270 L.mW nW' fW' rfl WR6.out ?m1 _ _ (zar x) rfl rfl WK.out ?m2
   case m1=>unfold maxLen;omega
   intro w7 n7 hm7 _ _ hn7 k7;refine ⟨.inl rfl,ZM ?_⟩;have WRD7:=zf (WRDa.out.put (x:=x) (l:=s.about x++[s.next]) (by simp) HVa.out.1 G6.out.1 O6.out G6.out.2 hm7 k7);rw [AB.out.2] at WRD7;have hbW:B L.mW:=MC.out _ (.inl (.inr (.inr (.inr (.inl rfl)))));have OW7:=zf (k7.obj AP.bW OW6.out);have NUM7:=zf (NUM6.out.chg k7 DD.out.2.1 (fun k hk=>AP.cW k hk));have BYT7:=zf (BYT6.out.chg k7 DD.out.2.2.1);have KC7:=zf (KC6.out.trans (k7.mono (fun k hk e=>by rw [e];exact hbW)))
   have ROW7:=zf (show ∀ j,zes (zay fW' (zar x) (some (.slice a6 ((s.about x).length+1) c6))) j->zes F.fW j∨w5.heap.size<=j from fun j hj=>by
    rcases zhW hj with q | q
    ·exact ROW.out j q
    ·rcases G6.out.2 with e | e
     ·rw [e] at q
      exact ROW.out j (VR.out j q)
     ·have:=e j q
      omega)
   clear AP hm7 k7 WRDa HVa G6 O6 OW6 NUM6 BYT6 KC6 WR6 LK WK ROW VR;go_wp2;go_roundw
   case rel=>exact ⟨k+1,n7,_,by omega,by go_num,zf ⟨OW7.out,NUM7.out,BYT7.out,WRD7.out,by omega,ROW7.out,KC7.out⟩⟩
   case measure=>simp [intOf];omega
  ·obtain rfl:k=fr.length:=by omega
   have OBF:=zf KC.out.size;have KF:=zf (K6.out.trans KC.out);have SIN:=zf (show xP wr L ⟨fN',fB',fW'⟩ nW' C' (s.plus ⟨kind,sg,sp,fr,f,t,n⟩) from ⟨OW.out,NUM.out,BYT.out,by rw [<- ziO];exact WRD.out,DD.out.1,DD.out.2.1,DD.out.2.2.1,by show nW'<=16*(s.next+1);omega⟩);have PI:=zf (HI.out.plus hcb hno (by omega))
   have RB:=zf (show ∀ k,Mut L ⟨fN',fB',fW'⟩ k∨C' k->B k∨w.heap.size<=k from fun k hk=>by
    rcases hk with (e | e | e | e | e) | e
    ·exact .inl (MC.out k (.inl (.inl e)))
    ·exact .inl (MC.out k (.inl (.inr (.inl e))))
    ·exact .inl (MC.out k (.inl (.inr (.inr (.inl e)))))
    ·exact .inl (MC.out k (.inl (.inr (.inr (.inr (.inl e))))))
    ·rcases ROW.out k e with q | q
     ·exact .inl (MC.out k (.inl (.inr (.inr (.inr (.inr q))))))
     ·exact .inr (by have:=K6.out.size;omega)
    ·exact CC.out k e)
   clear OW NUM BYT WRD KC;go_wp2;go_ret2;refine ⟨fun k=>(B k∨w.heap.size<=k)∧k < wr.heap.size,rfl,⟨L,_,_,_,rfl,SIN.out,PI.out,fun k hk=>⟨RB.out k hk,SIN.out.lt hk⟩,fun k hk=>hk.2⟩,KF.out,fun k hk=>hk.1⟩
end Go.Proofs.YtcilaocknhphnaaGreat
namespace Go.Proofs
open Go.Shelf
shelf_lay_g SlLaysH.n10 Slgf 10 at Tryz 293 as Tryz.laysDel
end Go.Proofs
namespace Go.Proofs.YtcilaocknhphnaaGreat
open Go.RowKit Go.Maps
structure zlp (P:Int->Prop) (t n:Int) (is:Bool):Prop where
  yes:is=true->t < n∧P n
  all:∀ x,P x->t < x->is=true∧n<=x
  no:is=false->n=0
theorem Tryz.elemCert:Zc Tryz.prog 103 7 80:=zX (z:=.agg #[.int .i64 0,.int .u16 0,.string ⟨#[]⟩,.slice none 0 0,.int .i64 0,.int .i64 0,.int .i64 0]) (by kernel_rfl) rfl (by decide)
def Ym:List (zF × Value)->List Value
  | []=>[]
  | p :: r=>[.int .i64 p.1.kind,.int .u16 (p.1.sg:Int),.string p.1.sp,p.2,.int .i64 p.1.f,.int .i64 p.1.t,.int .i64 p.1.n]++Ym r
theorem Xs:∀ xs ys,Ym (xs++ys)=Ym xs++Ym ys
 | [],ys=>rfl
 | p :: r,ys=>by rw [List.cons_append,Ym,Ym,Xs r ys,List.append_assoc]
structure zf4 (w:World) (base:Nat) (v:Value) (xs:List (zF × Value)):Prop where
  row:w.ownsRow base 103 7 v xs.length (Ym xs)
  ent:∀ p∈xs,w.ownsRow base 29 1 p.2 p.1.fr.length (zO p.1.fr)
  sep:xs.Pairwise (fun p q=>∀ k,p.2.ownBlock=some k->q.2.ownBlock≠some k)
theorem zf4.chg {S:Nat->Prop} {w w':World} {base:Nat} {v:Value} {xs:List (zF × Value)} (h:zf4 w base v xs) (hc:Chg S w w') (hs:∀ k,base<=k->k < w.heap.size->¬ S k):zf4 w' base v xs:=
 ⟨zo h.row hc (fun k hk=>hs k (h.row.lt k hk).1 (h.row.lt k hk).2),fun p hp=>zo (h.ent p hp) hc (fun k hk=>hs k ((h.ent p hp).lt k hk).1 ((h.ent p hp).lt k hk).2),h.sep⟩
theorem zf4.push {w w1 w2:World} {base:Nat} {v v' u:Value} {xs:List (zF × Value)} {c:zF} (h:zf4 w base v xs) (hb:base<=w.heap.size) (k1:Chg (fun _=>False) w w1) (hu:w1.ownsRow w.heap.size 29 1 u c.fr.length (zO c.fr))
  (k2:Chg (fun k=>v.ownBlock=some k) w1 w2) (ho:w2.ownsRow base 103 7 v' (xs.length+1) (Ym xs++[.int .i64 c.kind,.int .u16 (c.sg:Int),.string c.sp,u,.int .i64 c.f,.int .i64 c.t,.int .i64 c.n])):
  zf4 w2 base v' (xs++[(c,u)]):=by
 have h1:=h.chg k1 (fun _ _ _ e=>e)
 have tyne:∀ p∈xs,∀ k,p.2.ownBlock=some k->¬ v.ownBlock=some k:=fun p hp k hk e=>by
  obtain ⟨cs,q1⟩:=zM (h1.ent p hp) hk;obtain ⟨ds,q2⟩:=zM h1.row e;exact zfb q1 q2 (by decide) rfl
 refine ⟨?_,fun p hp=>?_,?_⟩
 ·rw [Xs,zlC]
  exact ho
 ·rcases zlL.1 hp with hp | hp
  ·exact zo (h1.ent p hp) k2 (fun k hk=>tyne p hp k hk)
  ·rw [List.mem_singleton] at hp
   subst hp
   exact YK (zo hu k2 (fun k hk e=>by
    obtain ⟨cs,q1⟩:=zM hu hk;obtain ⟨ds,q2⟩:=zM h1.row e;exact zfb q1 q2 (by decide) rfl)) hb
 ·rw [List.pairwise_append]
  refine ⟨h.sep,by simp,fun p hp q hq k hk e=>?_⟩;rw [List.mem_singleton] at hq;subst hq;have:=((h.ent p hp).lt k hk).2;have:=(hu.lt k e).1;omega
def zB.certsOf (s:zB) (l:List Nat):List zF:=l.filterMap fun (i:Nat)=>s.get (i:Int)
def zan (w:World) (cs:List zF) (e:Ending) (w':World):Prop:=∃ v xs,e=.returned v∧zf4 w' w.heap.size v xs∧xs.map Prod.fst=cs∧Chg (fun _=>False) w w'
set_option maxHeartbeats 4000000 in
set_option maxRecDepth 100000 in
theorem zhl (w:World) (b:Nat) (B:Nat->Prop) (s:zB) (t:Int) (h:Zz w b B s) (hnx:s.next<=1000000):
  Calls Tryz.prog 93 #[.pointer (some ⟨b,0,none⟩),.int .i64 t] w (zan w (s.certsOf (s.which fun c=>yH c t))):=by
 have VA:=zf (zga w b B s t h);have HS:=zf h;have hl200:(s.which fun c=>yH c t).length<=200:=Nat.le_trans (zcz s _) (Nat.le_trans h.inv.len h.inv.room2);have MW:=zf (fun i (hi:i∈s.which fun c=>yH c t)=>Xj.1 hi);clear h;generalize s.which (fun c=>yH c t)=l at *;go_enter Tryz.func93,Tryz.ntmps93;go_wp2_with fail;(with_reducible refine VA.out.mono ?_);rintro e w2 ⟨v,rfl,ho,k2⟩;obtain ⟨a,c,rfl⟩:=zl ho;have HO:=zf ho;have K2:=zf k2;clear ho k2 VA;go_wp2_with fail;go_loopw [5,12] (fun lv iv wr=>∃ (k:Nat) (xs:List (zF × Value)),k<=l.length∧iv=.int .i64 k∧Hid (zf4 wr w.heap.size lv xs∧xs.map Prod.fst=s.certsOf (l.take k)∧xs.length=k∧w2.heap.size<=wr.heap.size∧wr.ownsRow w.heap.size 3 1 (.slice a l.length c) l.length (zac l)∧Chg (fun _=>False) w wr)) (fun _ iv _=>l.length - (intOf iv).toNat)
 case atStart=>exact ⟨0,[],by omega,rfl,zf ⟨⟨World.ownsRow_nil _ _ _ _,fun p hp=>(List.not_mem_nil hp).elim,List.Pairwise.nil⟩,rfl,rfl,zlS _,HO.out,K2.out⟩⟩
 case round=>
  obtain ⟨k,xs,hk,rfl,HI2⟩:=hrel;obtain ⟨hcr,hmap,hlen,hsw,hor,hkc⟩:=HI2.out;obtain ⟨la,lc,rfl⟩:=zl hcr.row;have CR:=zf hcr;have MP:=zf hmap;have HR:=zf hor;have HK:=zf hkc;have XL:=zf hlen;have hxl:xs.length<=200:=by omega
  clear HI2 hcr hmap hor hkc hlen;by_cases hlt:k < l.length
  ·obtain ⟨i,hx⟩:∃ i,l[k]? = some i:=⟨_,zlz hlt⟩
   obtain ⟨cc,hm,_⟩:=MW.out i (zlB hx);obtain ⟨_,_,e1,_,hcl⟩:=YW HR.out;cases e1;obtain ⟨g,rfl,hgb,c0⟩:=hcl k (.int .i64 (i:Int)) (by unfold zac;rw [zlK,hx];rfl);obtain ⟨L,F,nW,C,hLb,h1,hi,_,_⟩:=HS.out.chg HK.out (fun _ _ e=>e);subst hLb;have c3:wr.cell? ⟨L.b,3,none⟩=some (.map (some L.mN)):=zg (o:=3) h1.own rfl;have hg:=hi.get_mem hm;simp only at hg;have hilt:=hi.lt _ hm;simp only at hilt;obtain ⟨sa,sc,hf,hca⟩:=h1.num.someS _ cc hg;have hfrm:=(ZO (hi.ok _ hm)).fr;simp only at hfrm
   have hf1:1<=cc.fr.length:=by
    obtain ⟨q,_⟩:=of_decide_eq_true hfrm;rwa [zU] at q
   have hf16:cc.fr.length<=1000:=by
    obtain ⟨_,q,_⟩:=of_decide_eq_true hfrm;rw [zU] at q;omega
   obtain ⟨g2,o2,rfl,_⟩:=hca.set.some (by omega);have CLN:=zf (zbF wr cc g2 o2 sc C hca.set.at_ hf16);have NM:=zf h1.num.map;have IK:=zf (zg3 (i:Int) (by omega) (by omega));have HZ:=zf (Tryz.zeroCert);have HF:=zf hf
   have CO:=zf (show s.certsOf (l.take (k+1))=s.certsOf (l.take k)++[cc] from by
    unfold zB.certsOf;rw [zlR,hx,List.filterMap_append];simp [hg])
   clear hm hcl hx hg hilt hf hca hfrm hf1 h1 hi hgb;obtain ⟨kind,sg,sp,fr,f,u,num⟩:=cc;unfold Zn at HF CLN;simp only at HF CLN hf16;go_wp2_with (at_lookup;refine zct rfl (.tmp 20) (.tmp 21) 268 rfl 3 103 Tryz.intKeyed Tryz.underlying268 _ (HZ.out _) L.mN s.certs.length F.fN rfl NM.out _ _ rfl IK.out (.agg #[.int .i64 kind,.int .u16 (sg:Int),.string sp,.slice (some ⟨g2,o2,none⟩) fr.length sc,.int .i64 f,.int .i64 u,.int .i64 num]) (by rw [HF.out];rfl) ?_);go_wp2_with fail;(with_reducible refine CLN.out.mono ?_);rintro e w5 ⟨v5,rfl,o5,k5⟩;obtain ⟨a5,c5,rfl⟩:=zl o5;have hbw:w.heap.size<=wr.heap.size:=HK.out.size;have hb5:w.heap.size<=w5.heap.size:=Nat.le_trans hbw k5.size;go_wp2_with (at_builtin;refine zK rfl (.tmp 16) (.tmp 24) 59 rfl 103 7 80 Tryz.underlying59 Tryz.elemCert w.heap.size _ xs.length (Ym xs) rfl ?a1 w5.heap.size [.int .i64 kind,.int .u16 (sg:Int),.string sp,.slice a5 fr.length c5,.int .i64 f,.int .i64 u,.int .i64 num] 103 (0,0) rfl ?a2 rfl ?a3 ?a4 ?a5 ?a6 ?a7)
   case a1=>exact zo (zo CR.out.row k5 (fun _ _ e=>e)) (zi (fun _=>False) _ _) (fun _ _ e=>e)
   case a2=>exact zh _ _
   case a3=>intro u hu;simp at hu;rcases hu with rfl | rfl | rfl | rfl | rfl | rfl | rfl <;> rfl
   case a4=>omega
   case a5=>unfold maxLen;omega
   case a6=>simp;omega
   intro v6 w6 o6 g6 _;obtain ⟨a6,c6,rfl⟩:=zl o6;have k6:=Chg.of_grown g6;have ka:=zi (fun _=>False) w5 (.cells #[.int .i64 kind,.int .u16 (sg:Int),.string sp,.slice a5 fr.length c5,.int .i64 f,.int .i64 u,.int .i64 num] 103);have CR6:=zf (zf4.push (c:=⟨kind,sg,sp,fr,f,u,num⟩) CR.out hbw (k5.trans ka) (zo o5 ka (fun _ _ e=>e)) k6 o6);have K6:=zf ((HK.out.trans (k5.trans ka)).next k6 (fun k hk e=>by have:=(CR.out.row.lt k e).1;omega))
   have R6:=zf (zo (zo HR.out (k5.trans ka) (fun _ _ e=>e)) k6 (fun k hk e=>by
    obtain ⟨cs,q1⟩:=zM HR.out hk;obtain ⟨ds,q2⟩:=zM CR.out.row e;exact zfb q1 q2 (by decide) rfl))
   have M6:=zf (show (xs++[((⟨kind,sg,sp,fr,f,u,num⟩:zF),Value.slice a5 fr.length c5)]).map Prod.fst=s.certsOf (l.take (k+1)) from by
    rw [CO.out,List.map_append,MP.out];rfl)
   have hs6:w2.heap.size<=w6.heap.size:=Nat.le_trans hsw (Nat.le_trans k5.size (Nat.le_trans ka.size k6.size));have X6:=zf (show (xs++[((⟨kind,sg,sp,fr,f,u,num⟩:zF),Value.slice a5 fr.length c5)]).length=k+1 from by rw [zlC,XL.out];rfl);clear o6 g6 k6 ka k5 o5 CR MP HR HK XL CLN NM HF IK CO c0 c3;go_wp2;go_roundw
   case rel=>exact ⟨k+1,_,by omega,by go_num,zf ⟨CR6.out,M6.out,X6.out,hs6,R6.out,K6.out⟩⟩
   case measure=>simp [intOf];omega
  ·obtain rfl:k=l.length:=by omega
   rw [zlT] at MP;go_wp2;go_ret;exact ⟨_,xs,rfl,CR.out,MP.out,HK.out⟩
end Go.Proofs.YtcilaocknhphnaaGreat
