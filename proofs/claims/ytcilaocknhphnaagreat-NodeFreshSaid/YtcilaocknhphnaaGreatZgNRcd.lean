/-
  Layer 23: large and wide, of a record's entries. The law of fresh keys: what helps it. The law of fresh keys: how things stand in its rounds. Package node: copied, and Record.
-/
import Derived.Test.YtcilaocknhphnaaGreatZgRBase
import Derived.Test.YtcilaocknhphnaaGreatZgCSet
import Derived.Test.YtcilaocknhphnaaGreatZgANew
import Derived.Test.YtcilaocknhphnaaGreatZgNPushT
import Derived.Test.YtcilaocknhphnaaGreatZgNRIn4
import Derived.Test.YtcilaocknhphnaaGreatZgNGrow
namespace Go.Proofs.YtcilaocknhphnaaGreat
open Go.RowKit Go.Maps
def zk0 (op:Int) (who:Value):Value:=.agg #[.int .i64 0,.int .i64 0,.int .i64 0,.int .u16 0,.int .i64 0,.int .i64 0,.int .i64 0,.int .i64 0,.int .i64 op,who,.int .i64 0,.int .i64 0,.string ⟨#[]⟩,.slice none 0 0,.string ⟨#[]⟩,.slice none 0 0]
set_option maxHeartbeats 4000000 in
set_option maxRecDepth 100000 in
theorem zd7 (w:World) (op:Int) (a:Option Addr) (n c:Nat) (G:Nat->Prop) (l:List ByteArray) (hv:yR w (.slice a n c) G l) (hl:l.length<=18):
  Calls Tryz.prog 32 #[zk0 op (.slice a n c)] w fun e w'=>∃ b:Bool,e=.returned (.bool b)∧Chg (fun _=>False) w w'∧(b=false->∀ s∈l,s.size<=100):=by
 have SRC:=zf (xU hv.at_);have NIL:=zf (show a=none->n=0∧c=0 from fun e=>hv.nil _ _ (by rw [e]));obtain ⟨_,_,e0,_,_⟩:=id hv.at_;cases e0;unfold zk0;have k1:=zi (fun _=>False) w (.cells #[.int .i64 0,.int .i64 0,.int .i64 0,.int .u16 0,.int .i64 0,.int .i64 0,.int .i64 0,.int .i64 0,.int .i64 op,.slice a l.length c,.int .i64 0,.int .i64 0,.string ⟨#[]⟩,.slice none 0 0,.string ⟨#[]⟩,.slice none 0 0] 99);have O1:=zf (zh w (.cells #[.int .i64 0,.int .i64 0,.int .i64 0,.int .u16 0,.int .i64 0,.int .i64 0,.int .i64 0,.int .i64 0,.int .i64 op,.slice a l.length c,.int .i64 0,.int .i64 0,.string ⟨#[]⟩,.slice none 0 0,.string ⟨#[]⟩,.slice none 0 0] 99));have K1:=zf k1;have c9:=zg (o:=9) O1.out rfl;have c12:=zg (o:=12) O1.out rfl;have c13:=zg (o:=13) O1.out rfl;have c14:=zg (o:=14) O1.out rfl;have c15:=zg (o:=15) O1.out rfl;clear hv k1;go_enter Tryz.func32,Tryz.ntmps32;have g30:decide (30 < (l.length:Int))=false:=zly (by omega);go_upto_region 1 with fail;generalize w.alloc (.cells #[.int .i64 0,.int .i64 0,.int .i64 0,.int .u16 0,.int .i64 0,.int .i64 0,.int .i64 0,.int .i64 0,.int .i64 op,.slice a l.length c,.int .i64 0,.int .i64 0,.string ⟨#[]⟩,.slice none 0 0,.string ⟨#[]⟩,.slice none 0 0] 99)=w1 at *;obtain ⟨b0,hb0⟩:∃ b0,b0=w.heap.size:=⟨_,rfl⟩;rw [<- hb0] at O1 c9 c12 c13 c14 c15;rw [<- hb0];clear hb0;have KE:=zf (zi (fun _=>False) w1 (.cells #[] 29))
 have SR2:=zf (fun (j:Nat) u (hj:(zO l)[j]? = some u)=>show ∃ g o,a=some ⟨g,o,none⟩∧(w1.alloc (.cells #[] 29)).cell? ⟨g,o+j,none⟩=some u from by
  obtain ⟨g',o',e,c1⟩:=SRC.out j u hj;exact ⟨g',o',e,zj (K1.out.trans KE.out) (fun e=>e) c1⟩)
 have e9:=zj KE.out (fun e=>e) c9;go_wp2_with (at_builtin;refine zbL rfl (.tmp 39) (.tmp 44) 31 32 rfl 29 29 1 16 Tryz.underlying31 Tryz.underlying32 Tryz.elemWord w1.heap.size _ 0 [] rfl (yX _ _ _ _ (zlS _)) a l.length c (zO l) rfl ?a1 ?a2 ?a3 ?a4 ?a5 ?a6 ?a7 ?a8)
 case a1=>unfold zO;rw [zlD];omega
 case a2=>exact SR2.out
 case a3=>exact fun e=>by simpa using NIL.out e
 case a4=>exact xi _
 case a5=>omega
 case a6=>unfold maxLen;omega
 case a7=>simp
 intro v2 w2 o2 g2;obtain ⟨a2,ac2,rfl⟩:=zl o2;have O2:=zf (show w2.ownsRow w1.heap.size 29 1 (.slice a2 l.length ac2) l.length (zO l) from by simpa using o2)
 have K2:=zf (show Chg (fun _=>False) w1 w2 from KE.out.next (Chg.of_grown g2) (fun x hx e=>by
  have e2:w1.heap.size=x:=by simpa [Value.ownBlock] using e
  omega))
 have d13:=zj K2.out (fun e=>e) c13;have HB:=zf (K2.out.obj (fun e=>e) O1.out);clear o2 g2 SR2 KE c9 c12 c13 c14 c15 e9;go_wp2;go_loopw [3,50] (fun sv iv wr=>sv=.slice a2 l.length ac2∧iv=.int .i64 0∧w2=wr) (fun _ _ _=>0)
 case atStart=>exact ⟨by simp,rfl,rfl⟩
 case round=>
  obtain ⟨rfl,rfl,rfl⟩:=hrel;go_wp2;go_loopw [83] (fun iv wr=>∃ k:Nat,k<=l.length∧iv=.int .i64 (k:Int)∧w2=wr∧Hid (∀ s∈l.take k,s.size<=100)) (fun iv _=>l.length - (intOf iv).toNat)
  case atStart=>exact ⟨0,by omega,rfl,rfl,zf (fun s hs=>by simp at hs)⟩
  case round=>
   obtain ⟨k,hk,rfl,rfl,HA⟩:=hrel;by_cases hlt:k < l.length
   ·obtain ⟨x,hx⟩:∃ x,l[k]? = some x:=⟨_,zlz hlt⟩
    obtain ⟨ra,rc,e,h1,hcl⟩:=YW O2.out;obtain ⟨g,hg,_,cx⟩:=hcl k (.string x) (by unfold zO;rw [zlK,hx];rfl);cases e;subst hg
    have NX:=zf (fun (hq:x.size<=100)=>show ∀ s∈l.take (k+1),s.size<=100 from fun s hs=>by
     rw [zlR,hx] at hs;rcases zlL.1 hs with hs | hs
     ·exact HA.out s hs
     ·simp at hs;subst hs;exact hq)
    by_cases hq:100 < x.size
    ·have g1:decide (100 < (x.size:Int))=true:=zlx (by omega)
     have g2:decide (100 < x.size)=true:=zlx hq;go_wp2;go_ret;exact ⟨true,rfl,K1.out.trans K2.out,fun e=>by cases e⟩
    ·have g1:decide (100 < (x.size:Int))=false:=zly (by omega)
     have g2:decide (100 < x.size)=false:=zly hq;have NY:=zf (NX.out (by omega));clear NX hx;go_wp2;go_roundw
     case rel=>exact ⟨k+1,by omega,by go_num,by first | rfl | trivial,NY⟩
     case measure=>simp [intOf];omega
   ·obtain rfl:k=l.length:=by omega
    have FA:=HA.out;rw [zlT] at FA;have FA:=zf FA;go_wp2;go_ret;exact ⟨false,rfl,K1.out.trans K2.out,fun _=>FA.out⟩
set_option maxHeartbeats 4000000 in
set_option maxRecDepth 100000 in
theorem ze7 (w:World) (r:zcn) (oa:Option Addr) (oc:Nat) (G:Nat->Prop) (h:ZC w (.slice oa r.objs.length oc) G r.objs):
  Calls Tryz.prog 23 #[.agg #[.int .i64 r.boot,.slice oa r.objs.length oc]] w fun e w'=>∃ b:Bool,e=.returned (.bool b)∧Chg (fun _=>False) w w'∧(b=false->zla r):=by
 have H:=zf h;have k1:=zi (fun _=>False) w (.cells #[.int .i64 r.boot,.slice oa r.objs.length oc] 40);have O1:=zf (zh w (.cells #[.int .i64 r.boot,.slice oa r.objs.length oc] 40));have K1:=zf k1;have c1:=zg (o:=1) O1.out rfl;have hlm:r.objs.length<=maxLen:=by obtain ⟨_,_,e,h1,h2,_⟩:=h.shape;cases e;omega
 unfold maxLen at hlm;have FIN:=zf (fun (a:r.objs.length<=6) (b:∀ o∈r.objs,o.ents.length<=14∧∀ x∈o.ents,x.2.length<=18∧∀ s∈x.2,s.size<=100)=>show zla r from ⟨a,fun o ho=>(b o ho).1,fun o ho x hx=>((b o ho).2 x hx).1,fun o ho x hx=>((b o ho).2 x hx).2⟩);obtain ⟨bo,objs⟩:=r;simp only at *;clear h k1;go_enter Tryz.func23,Tryz.ntmps23;by_cases h6:6 < objs.length
 ·have g6:decide (6 < (objs.length:Int))=true:=zlx (by omega)
  go_wp2;go_ret;exact ⟨true,rfl,K1.out,fun e=>by cases e⟩
 have g6:decide (6 < (objs.length:Int))=false:=zly (by omega);go_wp2;clear c1;generalize w.alloc (.cells #[.int .i64 bo,.slice oa objs.length oc] 40)=w1 at *;generalize hb0:w.heap.size=b0 at *;clear hb0;go_loopw [13] (fun iv wr=>∃ k:Nat,k<=objs.length∧iv=.int .i64 (k:Int)∧Hid (Chg (fun _=>False) w1 wr)∧Hid (∀ o∈objs.take k,o.ents.length<=14∧∀ x∈o.ents,x.2.length<=18∧∀ s∈x.2,s.size<=100)) (fun iv _=>objs.length - (intOf iv).toNat)
 case atStart=>exact ⟨0,by omega,rfl,zf (Chg.refl _ _),zf (fun o ho=>by simp at ho)⟩
 case round=>
  obtain ⟨k,hk,rfl,HC,HA⟩:=hrel;have c1:=zg (o:=1) (HC.out.obj (fun e=>e) O1.out) rfl;by_cases hlt:k < objs.length
  ·obtain ⟨o,ho⟩:∃ o,objs[k]? = some o:=⟨_,zlz hlt⟩
   have KK:=zf (K1.out.trans HC.out);obtain ⟨g,p,ea,ec,rfl,_,d0,d1,d2,he⟩:=(H.out.chg KK.out (fun _ _ e=>e)).get ho;have hem:o.ents.length<=maxLen:=by obtain ⟨_,_,e,h1,h2⟩:=he.shape;cases e;omega
   unfold maxLen at hem
   have NX:=zf (fun (hq:o.ents.length<=14∧∀ x∈o.ents,x.2.length<=18∧∀ s∈x.2,s.size<=100)=>show ∀ o∈objs.take (k+1),o.ents.length<=14∧∀ x∈o.ents,x.2.length<=18∧∀ s∈x.2,s.size<=100 from fun y hy=>by
    rw [zlR,ho] at hy;rcases zlL.1 hy with hy | hy
    ·exact HA.out y hy
    ·simp at hy;subst hy;exact hq)
   obtain ⟨va,vb,ents⟩:=o;simp only at *;have HE:=zf he;clear he ho;by_cases h14:14 < ents.length
   ·have g14:decide (14 < (ents.length:Int))=true:=zlx (by omega)
    go_wp2;go_ret;exact ⟨true,rfl,KK.out,fun e=>by cases e⟩
   have g14:decide (14 < (ents.length:Int))=false:=zly (by omega);go_wp2;clear d0 d2 c1;generalize hwo:wr=wo at *;clear hwo;go_loopw [31] (fun jv wr=>∃ j:Nat,j<=ents.length∧jv=.int .i64 (j:Int)∧Hid (Chg (fun _=>False) wo wr)∧Hid (∀ x∈ents.take j,x.2.length<=18∧∀ s∈x.2,s.size<=100)) (fun jv _=>ents.length - (intOf jv).toNat)
   case atStart=>exact ⟨0,by omega,rfl,zf (Chg.refl _ _),zf (fun x hx=>by simp at hx)⟩
   case round=>
    obtain ⟨j,hj,rfl,HD,HB⟩:=hrel;by_cases hlt2:j < ents.length
    ·obtain ⟨x,hx⟩:∃ x,ents[j]? = some x:=⟨_,zlz hlt2⟩
     have c1:=zg (o:=1) ((HC.out.trans HD.out).obj (fun e=>e) O1.out) rfl;have e1:=zj HD.out (fun e=>e) d1;obtain ⟨g2,q2,sa,sc,rfl,_,u0,u1,hs⟩:=(HE.out.chg HD.out (fun _ _ e=>e)).get hx;have kb:=zi (fun _=>False) wr (.cells #[.int .i64 x.1,.slice sa x.2.length sc] 34);have OX:=zh wr (.cells #[.int .i64 x.1,.slice sa x.2.length sc] 34);have x0:=zg (o:=0) OX rfl;have x1:=zg (o:=1) OX rfl;have KB:=zf (HD.out.trans kb);have LG:=zf (fun (hq:x.2.length<=18)=>zd7 _ x.1 sa x.2.length sc G x.2 (hs.chg kb (fun _ _ e=>e)) hq)
     have NY:=zf (fun (hq:x.2.length<=18∧∀ s∈x.2,s.size<=100)=>show ∀ x∈ents.take (j+1),x.2.length<=18∧∀ s∈x.2,s.size<=100 from fun y hy=>by
      rw [zlR,hx] at hy;rcases zlL.1 hy with hy | hy
      ·exact HB.out y hy
      ·simp at hy;subst hy;exact hq)
     have hsm:x.2.length<=maxLen:=by obtain ⟨_,_,e,h1,_⟩:=hs.at_;cases e;exact h1
     unfold maxLen at hsm;obtain ⟨op,who⟩:=x;simp only at *;clear hs kb OX hx HD;by_cases h18:18 < who.length
     ·have g18:decide (18 < (who.length:Int))=true:=zlx (by omega)
      go_wp2;go_ret;exact ⟨true,rfl,KK.out.trans KB.out,fun e=>by cases e⟩
     have g18:decide (18 < (who.length:Int))=false:=zly (by omega);have LG2:=LG.out (by omega);unfold zk0 at LG2;have LG2:=zf LG2;clear LG;go_wp2_with fail;clear u0 u1 x0 x1 e1 c1;(with_reducible refine LG2.out.mono ?_);rintro e w5 ⟨bb,rfl,k5,hb⟩;cases bb with
     | true=>
      have K5:=zf (KK.out.trans (KB.out.trans k5));clear LG2 k5 hb;go_wp2;go_ret;exact ⟨true,rfl,K5.out,fun e=>by cases e⟩
     | false=>
      have K5:=zf (KB.out.trans k5);have NZ:=zf (NY.out ⟨by omega,hb rfl⟩);clear LG2 k5 hb NY;go_wp2;go_roundw
      case rel=>exact ⟨j+1,by omega,by go_num,K5,NZ⟩
      case measure=>simp [intOf];omega
    ·obtain rfl:j=ents.length:=by omega
     have FB:=HB.out;rw [zlT] at FB;have FX:=zf (NX.out ⟨by omega,FB⟩);have KX:=zf (HC.out.trans HD.out);clear FB NX;go_wp2;go_roundw
     case rel=>exact ⟨k+1,by omega,by go_num,KX,FX⟩
     case measure=>simp [intOf];omega
  ·obtain rfl:k=objs.length:=by omega
   have FA:=HA.out;rw [zlT] at FA;have FF:=zf (FIN.out (by omega) FA);have KF:=zf (K1.out.trans HC.out);clear FA;go_wp2;go_ret;exact ⟨false,rfl,KF.out,fun _=>FF.out⟩
theorem Tryz.zeroBoolF (w:World):(zeroValue 4).run Tryz.prog w=.ok (.bool false) w:=by kernel_rfl
theorem yC.look_at {P:Program} {k e t:TypeId} {w:World} {b m:Nat} {f:Lit->Option Value} (h:yC P k w b m f) (K:Keyed P k) (ht:P.underlying t=some (.map k e)) {z:Value} (hz:(zeroValue e).run P w=.ok z w) {key:Value} {kl:Lit} (hkey:keyOf P k key=some kl) {v:Value} (hv:(f kl).getD z=v):
  (Instr.lookup t (.map (some b)) key false).run P w=.ok v w:=by
 obtain ⟨D,h,_,q⟩:=h;obtain ⟨v',ps,hrun,hv'⟩:=h.lookup K ht hz (show zfp z=some (.held z,[]) from rfl) hkey;rw [xZ q,hv] at hv';rw [hrun,Xc hv']
theorem zfZ {n:Nat} {d:Dev} {j:Jr} (h:zds n d j) (keep:List Bool) (ok:(d.crash keep).Ok n):zds n (d.crash keep) j:=
 ⟨ok,rfl,rfl,zee d keep,zjn h.rep (zhg h.clean keep),h.n0,h.n1⟩
def zdl (w:World) (v:Value) (G:Nat->Prop) (l:List Nat):Prop:=
  ∃ la cap,v=.slice la l.length cap∧l.length<=maxLen∧∀ (j:Nat) x,l[j]? = some x->∃ g o,la=some ⟨g,o,none⟩∧G g∧w.cell? ⟨g,o+j,none⟩=some (.int .u8 (x:Int))∧x < 256
theorem zdl.chg {S:Nat->Prop} {w w':World} {v:Value} {G:Nat->Prop} {l:List Nat} (h:zdl w v G l) (hc:Chg S w w') (hs:∀ k,G k->¬ S k):zdl w' v G l:=by
 obtain ⟨la,cap,h1,h2,h3⟩:=h;exact ⟨la,cap,h1,h2,fun j x hj=>by obtain ⟨g,o,q1,q2,q3,q4⟩:=h3 j x hj;exact ⟨g,o,q1,q2,zj hc (hs g q2) q3,q4⟩⟩
theorem zgK {W:World} {H:Type} {enc:TypeId × Value->H} {a:Option Addr} {n c:Nat} {d:DataW H} {ps:List MemPlace} (h:DataW.Trod enc Tryz.prog W 0 (fun _=>true) true 23 (.slice a n c) d ps):∃ l,zdl W (.slice a n c) (· < W.heap.size) l:=by
 obtain ⟨fuel,hf⟩:=h
 obtain ⟨la,cap,L,e,hl,hm,_,hel⟩:=xX (N:=1) Tryz.underlying23 (by kernel_rfl) (by decide) hf (α:=Nat) (R:=fun cs a=>cs=[.int .u8 (a:Int)]∧a < 256) (fun k cs y q=>by
  obtain ⟨n,e,_,hw⟩:=DataW.trod_int Tryz.underlying5 q;have hw:(decide (0<=n) && decide (n<=255))=true:=hw;simp at hw;exact ⟨n.toNat,by rw [e];congr;omega,by omega⟩)
 simp [Value.cells] at e;obtain ⟨rfl,rfl,rfl⟩:=e;refine ⟨L,_,_,rfl,by omega,fun j x hj=>?_⟩;obtain ⟨g,o,vs,q1,q2,⟨q3,q5⟩,q4⟩:=hel j x hj;have q6:=q4 0 (by decide);rw [q3] at q6;exact ⟨g,o,q1,q2,by simpa using q6,q5⟩
theorem zgX {W:World} {H:Type} {enc:TypeId × Value->H} {a:Option Addr} {n c:Nat} {d:DataW H} {ps:List MemPlace} (h:DataW.Trod enc Tryz.prog W 0 (fun _=>true) true 97 (.slice a n c) d ps):∃ l,XH W (.slice a n c) (· < W.heap.size) l:=by
 obtain ⟨fuel,hf⟩:=h
 obtain ⟨la,cap,L,e,hl,hm,_,hel⟩:=xX (N:=1) Tryz.underlying97 (by kernel_rfl) (by decide) hf (α:=Bool) (R:=fun cs a=>cs=[.bool a]) (fun k cs y q=>by
  obtain ⟨b,e,_⟩:=DataW.trod_bool Tryz.underlying4 q;exact ⟨b,e⟩)
 simp [Value.cells] at e;obtain ⟨rfl,rfl,rfl⟩:=e;refine ⟨L,_,_,rfl,by omega,fun j hj=>?_⟩;obtain ⟨g,o,vs,q1,q2,q3,q4⟩:=hel j _ (zlz hj);have q6:=q4 0 (by decide);rw [q3] at q6;refine ⟨g,o,q1,q2,?_⟩;rw [zlF,zlz hj]
 simpa using q6
def za0 (i k:Nat) (f:Lit->Option Value):Prop:=∀ a,a < 65536->(f (XU a)).isSome=true->∃ m,m<=k∧a=8292+50*i+m
def yA (i k j:Nat) (f:Lit->Option Value):Prop:=∀ a,a < 65536->(f (XU a)).isSome=true->(∃ m q,m<=k∧q < 40∧a=16385+50*(41*i+m)+q)∨∃ q,q < j∧q < 40∧a=16385+50*(41*i+(k+1))+q
theorem zfG (i k:Nat):za0 i k fun _=>none:=fun a _ h=>by cases h
theorem zei (i k j:Nat):yA i k j fun _=>none:=fun a _ h=>by cases h
theorem za0.fresh {i k:Nat} {f:Lit->Option Value} (h:za0 i k f) {a:Nat} (ha:a=8292+50*i+(k+1)) (h6:a < 65536):(f (XU a)).getD (.bool false)=.bool false:=by
 cases e:f (XU a) with
 | none=>rfl
 | some v=>
  obtain ⟨m,h1,h2⟩:=h a h6 (by rw [e];rfl);omega
theorem yA.fresh {i k j:Nat} {f:Lit->Option Value} (h:yA i k j f) {a:Nat} (ha:a=16385+50*(41*i+(k+1))+j) (hj:j < 40) (h6:a < 65536):(f (XU a)).getD (.bool false)=.bool false:=by
 cases e:f (XU a) with
 | none=>rfl
 | some v=>
  rcases h a h6 (by rw [e];rfl) with ⟨m,q,h1,h2,h3⟩ | ⟨q,h1,h2,h3⟩ <;> omega
theorem za0.put {i k:Nat} {f:Lit->Option Value} (h:za0 i k f) {a:Nat} (ha:a=8292+50*i+(k+1)) (v:Value):za0 i (k+1) (zay f (XU a) (some v)):=fun b hb hs=>by
 by_cases e:XU b=XU a
 ·have:=zeV e
  exact ⟨k+1,by omega,by omega⟩
 ·rw [Zg f e] at hs
  obtain ⟨m,h1,h2⟩:=h b hb hs;exact ⟨m,by omega,h2⟩
theorem yA.put {i k j:Nat} {f:Lit->Option Value} (h:yA i k j f) {a:Nat} (ha:a=16385+50*(41*i+(k+1))+j) (hj:j < 40) (v:Value):yA i k (j+1) (zay f (XU a) (some v)):=fun b hb hs=>by
 by_cases e:XU b=XU a
 ·have:=zeV e
  exact .inr ⟨j,by omega,hj,by omega⟩
 ·rw [Zg f e] at hs
  rcases h b hb hs with q | ⟨q,h1,h2,h3⟩
  ·exact .inl q
  ·exact .inr ⟨q,by omega,h2,h3⟩
theorem yA.more {i k j:Nat} {f:Lit->Option Value} (h:yA i k j f):yA i k (j+1) f:=fun b hb hs=>by
 rcases h b hb hs with q | ⟨q,h1,h2,h3⟩
 ·exact .inl q
 ·exact .inr ⟨q,by omega,h2,h3⟩
theorem yA.next {i k j:Nat} {f:Lit->Option Value} (h:yA i k j f):yA i (k+1) 0 f:=fun b hb hs=>by
 rcases h b hb hs with ⟨m,q,h1,h2,h3⟩ | ⟨q,h1,h2,h3⟩
 ·exact .inl ⟨m,q,by omega,h2,h3⟩
 ·exact .inl ⟨k+1,q,by omega,h2,h3⟩
theorem zgF {i m j:Nat} (hi:i < 3) (h1:1<=m) (h2:m<=40) (hj:j < 40):zgH (16385+50*(41*i+m)+j)=(8292+50*i+m,true):=by
 have e:16385+50*(41*i+m)+j=16385+(50*(41*i+m)+j):=by omega
 have e1:(50*(41*i+m)+j) % 50=j:=by omega
 have e2:(50*(41*i+m)+j) / 50=41*i+m:=by omega
 have e3:(41*i+m) / 41=i:=by omega
 have e4:(41*i+m) % 41=m:=by omega
 rw [e,zeE (by omega),e1,e2,e3,e4,if_neg (by omega)]
theorem Xv {P:Program} {ops:Array Oper} {w':World} {K:Act->Prop} {a:Act} {i:Nat} {is:List Nat} {o:Oper} (ho:ops[i]? = some o) (h:wpStill P ops w' K (o :: zS ops is) a):wpStill P ops w' K (zS ops (i :: is)) a:=by
 have e:zS ops (i :: is)=o :: zS ops is:=by unfold zS;rw [zls,ho]
 rw [e];exact h
theorem Tryz.fieldBoot (b x:Value) (w:World):(Instr.field 40 (.agg #[b,x]) 0).run Tryz.prog w=.ok b w:=by kernel_rfl
theorem zbk (L:List (Nat × ByteArray)) (x:Nat × ByteArray):(yG L x).length<=L.length+1:=by
 unfold yG;split
 ·omega
 ·split
  ·omega
  ·simp
theorem zeA {m:Nat} (objs:List Yr) (h:m<=40):(YI ⟨(m:Int),objs⟩).length=(YI ⟨((0:Nat):Int),objs⟩).length:=by
 unfold YI;simp only [Int.toNat_natCast];rw [ZQ (n:=m) (by omega),ZQ (n:=0) (by decide)];rfl
theorem zh0 {m:Nat} {objs:List Yr} (h:xF ⟨((0:Nat):Int),objs⟩=true) (hm:m<=40):xF ⟨(m:Int),objs⟩=true:=by
 rw [yE] at h ⊢;exact ⟨by show (0:Int)<=(m:Int);omega,by show (m:Int)<=40;omega,h.2.2⟩
structure Fr (w0:World) (W:World) (B:DB) (b gk gc base i k m q j:Nat) (objs:List Yr) (num:Int) (half:Nat) (BB:Nat->Prop) (L:List (Nat × ByteArray)) (d:Dev) (fk fc:Lit->Option Value) (nk nc:Nat):Prop where
  dev:zY W B d
  calm:zds 65 d ⟨num,half,⟨(YI ⟨(m:Int),objs⟩).toArray⟩⟩
  num:num<=1+(m:Int)
  half:half<=1
  book:ZD W b BB L []
  bb:∀ x,BB x->x=b∨base<=x
  len:L.length<=50*k+(m - k)+j
  mpk:yC Tryz.prog 58 W gk nk fk
  mpc:yC Tryz.prog 58 W gc nc fc
  keys:za0 i q fk
  chans:yA i k j fc
  lk:nk<=q
  lc:nc<=50*k+j
  size:base<=W.heap.size
  dv:B.n=65∧∀ x,B.S x->w0.heap.size<=x∧x < b
  ord:w0.heap.size<=b∧b < gk∧gk < gc∧gc < base
  chg:Chg (fun x=>w0.heap.size<=x) w0 W
section
variable {w0 W W':World} {B:DB} {b gk gc base i k m q j:Nat} {objs:List Yr} {num:Int} {half:Nat} {BB:Nat->Prop} {L:List (Nat × ByteArray)} {d:Dev} {fk fc:Lit->Option Value} {nk nc:Nat}
theorem Fr.still (h:Fr w0 W B b gk gc base i k m q j objs num half BB L d fk fc nk nc) (c:Chg (fun _=>False) W W'):Fr w0 W' B b gk gc base i k m q j objs num half BB L d fk fc nk nc:=
 { h with dev:=h.dev.chg c (fun _ _ e=>e),book:=h.book.chg c (fun _ _ e=>e),mpk:=h.mpk.chg c (fun e=>e),mpc:=h.mpc.chg c (fun e=>e),size:=Nat.le_trans h.size c.size,chg:=h.chg.next c (fun _ _ e=>e.elim) }
theorem Fr.boot (h:Fr w0 W B b gk gc base i k k k 0 objs num half BB L d fk fc nk nc) {d':Dev} {BB':Nat->Prop} {x:Nat × ByteArray} (hd:zY W' B d') (hc:zds 65 d' ⟨num+1,1 - half,⟨(YI ⟨((k+1:Nat):Int),objs⟩).toArray⟩⟩)
  (hb:ZD W' b BB' (yG L x) []) (hbb:∀ k,BB' k->BB k∨W.heap.size<=k) (c:Chg (fun k=>B.S k∨BB k) W W'):Fr w0 W' B b gk gc base i k (k+1) k 0 objs (num+1) (1 - half) BB' (yG L x) d' fk fc nk nc:=by
 have ho:=h.ord;have hs:=h.size
 have ap:∀ y,b < y->y < base->¬ (B.S y∨BB y):=fun y h1 h2 e=>by
  rcases e with e | e
  ·have:=(h.dv.2 y e).2;omega
  ·rcases h.bb y e with e | e <;> omega
 have hl:=zbk L x;have hl2:=h.len;have hn:=h.num
 exact { dev:=hd,calm:=hc,num:=by omega,half:=by omega,book:=hb,len:=by omega,mpk:=h.mpk.chg c (ap _ (by omega) (by omega)),mpc:=h.mpc.chg c (ap _ (by omega) (by omega)),keys:=h.keys,chans:=h.chans,lk:=h.lk,lc:=h.lc,size:=Nat.le_trans hs c.size,dv:=h.dv,ord:=h.ord,
              bb:=(fun y e=>by
               rcases hbb y e with e | e
               ·exact h.bb y e
               ·exact .inr (by omega)),
              chg:=h.chg.next c (fun y hy e=>by
               rcases e with e | e
               ·exact (h.dv.2 y e).1
               ·rcases h.bb y e with e | e
                ·rw [e];exact ho.1
                ·omega) }
theorem Fr.key (h:Fr w0 W B b gk gc base i k (k+1) k 0 objs num half BB L d fk fc nk nc) {n' a:Nat} {v:Value} (hm:yC Tryz.prog 58 W' gk n' (zay fk (XU a) (some v))) (hn:n'<=nk+1) (ha:a=8292+50*i+(k+1)) (c:Chg (·=gk) W W'):
  Fr w0 W' B b gk gc base i k (k+1) (k+1) 0 objs num half BB L d (zay fk (XU a) (some v)) fc n' nc:=by
 have ho:=h.ord;have hl:=h.lk;exact { h with dev:=h.dev.chg c (fun y e1 e2=>by have:=(h.dv.2 y e1).2;omega),book:=h.book.chg c (fun y e1 e2=>by rcases h.bb y e1 with e | e <;> omega),mpk:=hm,mpc:=h.mpc.chg c (by omega),keys:=h.keys.put ha v,lk:=by omega,size:=Nat.le_trans h.size c.size,chg:=h.chg.next c (fun y hy e=>by omega) }
theorem Fr.opened (h:Fr w0 W B b gk gc base i k m q j objs num half BB L d fk fc nk nc) {BB':Nat->Prop} {x:Nat × ByteArray} {n lo:Nat} {lv:Value} (hlo:base<=lo) (hn:lo<=n) (hlv:∀ y,lv.ownBlock=some y->lo<=y)
    (hb:ZD W' b BB' (yG L x) []) (hbb:∀ k,BB' k->BB k∨W.heap.size<=k) (c:Chg (fun k=>k=n∨lv.ownBlock=some k∨BB k) W W'):Fr w0 W' B b gk gc base i k m q (j+1) objs num half BB' (yG L x) d fk fc nk nc:=by
  have ho:=h.ord;have hs:=h.size
  have ap:∀ y,y < base->y≠b->¬ (y=n∨lv.ownBlock=some y∨BB y):=fun y h1 h2 e=>by
    rcases e with e | e | e
    · omega
    · have:=hlv y e;omega
    · rcases h.bb y e with e | e <;> omega
  have hl:=zbk L x;have hl2:=h.len;have hl3:=h.lc
  exact { h with dev:=h.dev.chg c (fun y e1=>ap y (by have:=(h.dv.2 y e1).2;omega) (by have:=(h.dv.2 y e1).2;omega)),book:=hb,len:=by omega,mpk:=h.mpk.chg c (ap _ (by omega) (by omega)),mpc:=h.mpc.chg c (ap _ (by omega) (by omega)),chans:=h.chans.more,lc:=by omega,size:=Nat.le_trans hs c.size,
                 bb:=(fun y e=>by
                   rcases hbb y e with e | e
                   · exact h.bb y e
                   · exact .inr (by omega)),
                 chg:=h.chg.next c (fun y hy e=>by
                   rcases e with e | e | e
                   · omega
                   · have:=hlv y e;omega
                   · rcases h.bb y e with e | e
                     · rw [e];exact ho.1
                     · omega) }
theorem Fr.more (h:Fr w0 W B b gk gc base i k m q j objs num half BB L d fk fc nk nc):Fr w0 W B b gk gc base i k m q (j+1) objs num half BB L d fk fc nk nc:=by
 have hl2:=h.len;have hl3:=h.lc;exact { h with len:=by omega,chans:=h.chans.more,lc:=by omega }
theorem Fr.chan (h:Fr w0 W B b gk gc base i k m q (j+1) objs num half BB L d fk fc nk nc) (hc:yA i k j fc) (hl:nc<=50*k+j) {n' a:Nat} {v:Value} (hm:yC Tryz.prog 58 W' gc n' (zay fc (XU a) (some v))) (hn:n'<=nc+1) (ha:a=16385+50*(41*i+(k+1))+j) (hj:j < 40) (c:Chg (·=gc) W W'):
  Fr w0 W' B b gk gc base i k m q (j+1) objs num half BB L d fk (zay fc (XU a) (some v)) nk n':=by
 have ho:=h.ord;exact { h with dev:=h.dev.chg c (fun y e1 e2=>by have:=(h.dv.2 y e1).2;omega),book:=h.book.chg c (fun y e1 e2=>by rcases h.bb y e1 with e | e <;> omega),mpc:=hm,mpk:=h.mpk.chg c (by omega),chans:=hc.put ha hj v,lc:=by omega,size:=Nat.le_trans h.size c.size,chg:=h.chg.next c (fun y hy e=>by omega) }
theorem Fr.crash (h:Fr w0 W B b gk gc base i k (k+1) (k+1) j objs num half BB L d fk fc nk nc) (hj:j<=42) {keep:List Bool} (hd:zY W' B (d.crash keep)) (c:Chg B.S W W'):Fr w0 W' B b gk gc base i (k+1) (k+1) (k+1) 0 objs num half BB L (d.crash keep) fk fc nk nc:=by
 have ho:=h.ord;have hl:=h.len;have hl2:=h.lc;have ok:=hd.ok;rw [h.dv.1] at ok;exact { h with dev:=hd,calm:=zfZ h.calm keep ok,book:=h.book.chg c (fun y e1 e2=>by have:=(h.dv.2 y e2).2;rcases h.bb y e1 with e | e <;> omega),len:=by omega,mpk:=h.mpk.chg c (fun e=>by have:=(h.dv.2 _ e).2;omega),mpc:=h.mpc.chg c (fun e=>by have:=(h.dv.2 _ e).2;omega),chans:=h.chans.next,lc:=by omega,size:=Nat.le_trans h.size c.size,chg:=h.chg.next c (fun y hy e=>(h.dv.2 y e).1) }
end
set_option maxHeartbeats 4000000 in
set_option maxRecDepth 100000 in
theorem zfX (w:World) (x:ZE) (a:Option Addr) (n c:Nat) (G:Nat->Prop) (hv:yR w (.slice a n c) G x.2) (h1:1<=x.2.length) (h2:x.2.length<=1000):
  Calls Tryz.prog 78 #[.agg #[.int .i64 x.1,.slice a n c]] w fun e w'=>∃ v,e=.returned (.agg #[.int .i64 x.1,v])∧w'.ownsRow w.heap.size 29 1 v x.2.length (zO x.2)∧Chg (fun _=>False) w w':=by
 obtain ⟨g,o,rfl,hg⟩:=hv.some (by omega);have CL:=zf (fun w1 (k:Chg (fun _=>False) w w1)=>YH w1 g o n c G x.2 (hv.at_.chg k (fun _ _ e=>e)) h2);clear hv;obtain ⟨op,l⟩:=x;simp only at CL h1 h2 ⊢;have k1:=(zi (fun _=>False) w (.cells #[.int .i64 op,.slice (some ⟨g,o,none⟩) n c] 34)).alloc (.cells #[.int .i64 0,.slice none 0 0] 34);have o1:=yc (.cells #[.int .i64 0,.slice none 0 0] 34) (zh w (.cells #[.int .i64 op,.slice (some ⟨g,o,none⟩) n c] 34));have o2:=zh (w.alloc (.cells #[.int .i64 op,.slice (some ⟨g,o,none⟩) n c] 34)) (.cells #[.int .i64 0,.slice none 0 0] 34);rw [zlH] at o2;have O1:=zf o1;have O2:=zf o2;have K1:=zf k1;have c0:=zg (o:=0) o1 rfl;have c1:=zg (o:=1) o1 rfl;clear k1 o1 o2;go_enter Tryz.func78,Tryz.ntmps78;go_wp2_with fail;generalize (w.alloc (.cells #[.int .i64 op,.slice (some ⟨g,o,none⟩) n c] 34)).alloc (.cells #[.int .i64 0,.slice none 0 0] 34)=w1 at *;refine Zf (N:=9) [.rd [0,1,2,3],.ef 4,.ef 5,.ef 6] 6 (fun W=>W.cell? ⟨w.heap.size,0,none⟩=some (.int .i64 op)∧W.cell? ⟨w.heap.size,1,none⟩=some (.slice (some ⟨g,o,none⟩) n c)) (by kernel_rfl) (by kernel_rfl) (by kernel_rfl) (by kernel_rfl) (by kernel_rfl) (Nat.le_of_ble_eq_true rfl) ⟨c0,c1⟩ ?_;refine Yg (A:=?A1) ?h1 ?h2
 case h1=>
  rintro w' ⟨z0,z1⟩ K hK;simp only [zS,zls,zlt,zlu,zlv,zlw]
  repeat still_step
  refine wpStill_nil ?_;exact hK
 have KD:=zf (K1.out.drew);have D1:=zf ((zy (fun _=>False) w1).obj (fun e=>e) O1.out);have D2:=zf ((zy (fun _=>False) w1).obj (fun e=>e) O2.out);clear c0 c1 O1 O2 K1;generalize w1.drew=wd at *;have C1:=zf (CL.out wd KD.out);refine zG rfl ?_;go_wp2_with fail;(with_reducible refine C1.out.mono ?_);rintro e w2 ⟨v2,rfl,r2,k2⟩;obtain ⟨a2,c2,rfl⟩:=zl r2;have E1:=k2.obj (fun e=>e) D1.out;have E2:=k2.obj (fun e=>e) D2.out;have c0:=zg (o:=0) E1 rfl;have c1:=zg (o:=1) E1 rfl;have d0:=zg (o:=0) E2 rfl;have d1:=zg (o:=1) E2 rfl;have f0:=zk (o:=0) E2;have f1:=zk (o:=1) E2;have kk:Chg (fun k=>k=w.heap.size+1) w2 ((w2.setCell ⟨w.heap.size+1,0,none⟩ (.int .i64 op)).setCell ⟨w.heap.size+1,1,none⟩ (.slice a2 l.length c2)):=(zA w2 (w.heap.size+1) 0 (.int .i64 op)).trans (zA _ (w.heap.size+1) 1 (.slice a2 l.length c2));have ob:=zq (o:=1) (zq (o:=0) E2 (.int .i64 op)) (.slice a2 l.length c2);have hwd:w.heap.size+2<=wd.heap.size:=by have:=zu D2.out;omega
 have FIN:=zf (And.intro (YK (zo r2 kk (fun k hk e=>by have:=(r2.lt k hk).1;omega)) (show w.heap.size<=wd.heap.size by omega)) (And.intro ((KD.out.trans k2).next kk (fun k hk (e:k=w.heap.size+1)=>by omega)) ob));clear r2 k2 E1 E2 kk ob C1 CL D1 D2 KD;go_wp2_with fail
 first | refine ⟨.inr ⟨c0,c1⟩,?_⟩ | refine ⟨⟨c0,c1⟩,?_⟩
 refine zG rfl ?_;go_wp2_with fail
 first | refine ⟨.inr ⟨c0,c1⟩,?_⟩ | refine ⟨⟨c0,c1⟩,?_⟩
 refine zG rfl ?_;go_wp2_with fail
 first | refine ⟨.inl rfl,ZM ?_⟩ | (unfold xz;refine ZM ?_)
 obtain ⟨r1,r2,r3⟩:=FIN.out;have z0:=zg (o:=0) r3 rfl;have z1:=zg (o:=1) r3 rfl;go_wp2;refine bodyPost_ret (v:=.agg #[.int .i64 op,.slice a2 l.length c2]) (by simp [results,Tryz.results78,go_sem,z0,z1]) rfl ?_;exact ⟨_,rfl,r1,r2⟩
set_option maxHeartbeats 8000000 in
set_option maxRecDepth 100000 in
theorem zfo (w:World) (r:zcn) (b q0:Nat) (oa:Option Addr) (oc:Nat) (G:Nat->Prop) (hb0:w.cell? ⟨b,q0+6,none⟩=some (.int .i64 r.boot)) (hb1:w.cell? ⟨b,q0+7,none⟩=some (.slice oa r.objs.length oc)) (h:ZC w (.slice oa r.objs.length oc) G r.objs) (hG:∀ k,G k->k < w.heap.size)
  (hr:∀ o∈r.objs,(∀ x∈o.ents,zec x=true)∧o.ents.length<=12) (hn:r.objs.length<=6):
  Calls Tryz.prog 21 #[.pointer (some ⟨b,q0,none⟩)] w fun e w'=>∃ v,e=.returned v∧zk3 w' v (fun k=>w.heap.size<=k∧k < w'.heap.size) r∧Chg (fun _=>False) w w':=by
 have HO:=zf h;have HG:=zf hG;have HR:=zf hr;have hbw:b < w.heap.size:=World.block_lt_of_cell? w _ hb0;have ka:=zi (fun _=>False) w (.cells #[.int .i64 0,.slice none 0 0] 40);have za:w.heap.size < (w.alloc (.cells #[.int .i64 0,.slice none 0 0] 40)).heap.size:=by rw [zlH];omega
 have OA:=zf (zh w (.cells #[.int .i64 0,.slice none 0 0] 40));have e0:=zj ka (fun e=>e) hb0;have e1:=zj ka (fun e=>e) hb1;have kb:=zi (fun _=>False) (w.alloc (.cells #[.int .i64 0,.slice none 0 0] 40)) (.cells #[.int .i64 r.boot,.slice none 0 0] 40);have zb:(w.alloc (.cells #[.int .i64 0,.slice none 0 0] 40)).heap.size < ((w.alloc (.cells #[.int .i64 0,.slice none 0 0] 40)).alloc (.cells #[.int .i64 r.boot,.slice none 0 0] 40)).heap.size:=by rw [zlH _ (.cells #[.int .i64 r.boot,.slice none 0 0] 40)];omega
 have go2:=ziZ (w.alloc (.cells #[.int .i64 0,.slice none 0 0] 40)) r.boot;rw [zlH] at go2;have GO2:=zf go2;clear go2;have OA2:=zf (kb.obj (fun e=>e) OA.out);have K2:=zf (show Chg (fun k=>w.heap.size<=k) w ((w.alloc (.cells #[.int .i64 0,.slice none 0 0] 40)).alloc (.cells #[.int .i64 r.boot,.slice none 0 0] 40)) from (ka.trans kb).mono (fun _ _ e=>e.elim));have x1:=zj kb (fun e=>e) e1;have hlm:r.objs.length<=maxLen:=by unfold maxLen;omega
 obtain ⟨bo,objs⟩:=r;simp only at *;clear h hG hr ka kb hb0 hb1 OA;go_enter Tryz.func21,Tryz.ntmps21;go_wp2;clear e0 e1;generalize hA0:w.heap.size=A0 at *;have HA0:=zf hA0;clear hA0;generalize hR:A0+1=R at *;have hA0R:A0 < R:=by omega
 clear hR;generalize (w.alloc (.cells #[.int .i64 0,.slice none 0 0] 40)).alloc (.cells #[.int .i64 bo,.slice none 0 0] 40)=w2 at *;have hRw:R < w2.heap.size:=by obtain ⟨_,_,q⟩:=GO2.out;exact zu q.1
 go_loopw [21] (fun iv wr=>∃ k:Nat,k<=objs.length∧iv=.int .i64 (k:Int)∧Hid (GO wr R bo (objs.take k))∧Hid (wr.heap[A0]? = some (.cells #[.int .i64 0,.slice none 0 0] 40 (0,0)))∧Hid (Chg (fun k=>A0<=k) w wr)) (fun iv _=>objs.length - (intOf iv).toNat)
 case atStart=>exact ⟨0,by omega,rfl,GO2,OA2,K2⟩
 case round=>
  clear GO2 OA2 K2 x1 hRw;obtain ⟨k,hk,rfl,HI,HA,HC⟩:=hrel;by_cases hlt:k < objs.length
  ·obtain ⟨o,ho⟩:∃ o,objs[k]? = some o:=⟨_,zlz hlt⟩
   obtain ⟨EB,e12⟩:=HR.out o (zlB ho);have EB:=zf EB;have TK:=zf (show objs.take (k+1)=objs.take k++[o] from by rw [zlR,ho];rfl);obtain ⟨g,p,ea,ec,rfl,_,d0,d1,d2,he⟩:=(HO.out.chg HC.out (fun k hk (e:A0<=k)=>by have:=HG.out k hk;have:=HA0.out;omega)).get ho;have hRr:R < wr.heap.size:=by obtain ⟨_,_,q⟩:=HI.out;exact zu q.1
   obtain ⟨va,vb,ents⟩:=o;simp only at *;have kb:=zi (fun _=>False) wr (.cells #[.int .i64 va,.slice ea ents.length ec,.int .i64 vb] 37);have zb:wr.heap.size < (wr.alloc (.cells #[.int .i64 va,.slice ea ents.length ec,.int .i64 vb] 37)).heap.size:=by rw [zlH];omega
   have kn:=zi (fun x=>wr.heap.size<=x) wr (.cells #[.int .i64 va,.slice none 0 0,.int .i64 vb] 37);have GE3:=zf (zi0 wr va vb);have KW0:=zf kn;have OBT:=zh wr (.cells #[.int .i64 va,.slice ea ents.length ec,.int .i64 vb] 37);have y1:=zg (o:=1) OBT rfl;have fy:=zk (o:=1) OBT;have HE:=zf he;clear he kb kn OBT ho;go_wp2;clear y1 fy d0 d1 d2;have zT:wr.heap.size < (wr.alloc (.cells #[.int .i64 va,.slice none 0 0,.int .i64 vb] 37)).heap.size:=by rw [zlH];omega
   generalize wr.alloc (.cells #[.int .i64 va,.slice none 0 0,.int .i64 vb] 37)=w3 at *;generalize hwo:wr=wo at *;clear hwo;generalize hT:wo.heap.size=T at *;have HT:=zf hT;clear hT zb;go_loopw [30] (fun jv wr=>∃ j:Nat,j<=ents.length∧jv=.int .i64 (j:Int)∧Hid (GE wr T va vb (ents.take j))∧Hid (Chg (fun x=>T<=x) wo wr)) (fun jv _=>ents.length - (intOf jv).toNat)
   case atStart=>exact ⟨0,by omega,rfl,GE3,KW0⟩
   case round=>
    clear GE3 KW0;obtain ⟨j,hj,rfl,HGE0,KW⟩:=hrel;obtain ⟨ev,E,hge⟩:=HGE0.out;have hEl:E.length=j:=by have:=hge.2.2.len;rw [zlE] at this;omega
    obtain ⟨sa0,sc0,rfl⟩:=zl hge.2.1;have HGE:=zf hge;rw [hEl] at HGE;have c1:=zg (o:=1) HGE.out.1 rfl;have hTw:T < wr.heap.size:=zu hge.1;have HEw:=zf (HE.out.chg KW.out (fun k hk (e:T<=k)=>by have:=HG.out k hk;have:=HA0.out;omega));by_cases hlt2:j < ents.length
    ·obtain ⟨x,hx⟩:∃ x,ents[j]? = some x:=⟨_,zlz hlt2⟩
     have hxb:=EB.out x (zlB hx);obtain ⟨l1,l16⟩:=xY (Yj.1 hxb).2
     have SZW:=zf (show ∀ y∈x.2,y.size<=maxLen from fun y hy=>by
      have:=YY (Zm (Yj.1 hxb).2 hy);unfold maxLen;rw [<- zz];omega)
     have TX:=zf (show ents.take (j+1)=ents.take j++[x] from by rw [zlR,hx];rfl);obtain ⟨g2,p2,sa,sc,rfl,_,y0,y1,hs⟩:=HEw.out.get hx;obtain ⟨op,who⟩:=x;simp only at *;have HRY:=zf (fun q (hq:(Value.slice sa0 j sc0).ownBlock=some q)=>show q < wr.heap.size from (HGE.out.ne hq).2);have kx:=zi (fun _=>False) wr (.cells #[.int .i64 op,.slice sa who.length sc] 34);have OX:=zf (zh wr (.cells #[.int .i64 op,.slice sa who.length sc] 34));have HGx:=zf (HGE.out.chg kx (fun k h1 h2 e=>e));have KX:=zf (KW.out.trans (kx.mono (fun _ _ e=>e.elim)));have HSx:=zf (hs.chg kx (fun _ _ e=>e));have cx:=zg (o:=1) HGx.out.1 rfl;have x0:=zg (o:=0) OX.out rfl;have x1:=zg (o:=1) OX.out rfl;clear kx hs hge HGE0 c1 hx;go_wp2_with fail;clear y0 y1;generalize hY:wr.heap.size=Y at *;clear hY;generalize wr.alloc (.cells #[.int .i64 op,.slice sa who.length sc] 34)=wx at *;refine Zf (N:=50) [.rd [0,1,2],.ef 3,.ef 4,.ef 5,.ef 6,.ef 7] 7 (fun W=>W.cell? ⟨T,1,none⟩=some (.slice sa0 j sc0)∧W.cell? ⟨Y,0,none⟩=some (.int .i64 op)∧W.cell? ⟨Y,1,none⟩=some (.slice sa who.length sc)) (by kernel_rfl) (by kernel_rfl) (by kernel_rfl) (by kernel_rfl) (by kernel_rfl) (Nat.le_of_ble_eq_true rfl) ⟨cx,x0,x1⟩ ?_;refine Yg (A:=?A1) ?h1 ?h2
     case h1=>
      rintro w' ⟨z0,z1,z2⟩ K hK;simp only [zS,zls,zlt,zlu,zlv,zlw]
      repeat still_step
      refine wpStill_nil ?_;exact hK
     have kd:=zy (fun _=>False) wx;have HGd:=zf (HGx.out.chg kd (fun k h1 h2 e=>e));have KD:=zf (KX.out.trans (kd.mono (fun _ _ e=>e.elim)));have OD:=zf (kd.obj (fun e=>e) OX.out);have CP:=zf (zfX wx.drew (op,who) sa who.length sc G (HSx.out.chg kd (fun _ _ e=>e)) l1 (by simp only;omega));clear kd cx x0 x1 HGx KX OX HSx HGE KW HEw;generalize wx.drew=wd at *;simp only at CP;refine zG rfl ?_;go_wp2_with fail;(with_reducible refine CP.out.mono ?_);rintro e wb ⟨sv,rfl,ob,kb⟩;have HGb:=zf (HGd.out.chg kb (fun k h1 h2 e=>e));have Kb:=zf (KD.out.trans (kb.mono (fun _ _ e=>e.elim)));have OBb:=kb.obj (fun e=>e) OD.out
     have SA:=zf ((ya ob SZW.out).up (G':=fun y=>T < y∧y < wb.heap.size∧(Value.slice sa0 j sc0).ownBlock≠some y) (fun y hy=>by
      have h1:=ob.lt y hy;have h2:T < wd.heap.size:=zu HGd.out.1;exact ⟨by omega,h1.2,fun e=>by have:=(HGd.out.ne e).2;omega⟩))
     have cb:=zg (o:=1) HGb.out.1 rfl;have b0:=zg (o:=0) OBb rfl;have b1:=zg (o:=1) OBb rfl;obtain ⟨va1,vc1,rfl⟩:=zl ob;have OBY:=zf OBb;clear ob kb CP HGd KD OD OBb;go_wp2_with fail
     first | refine ⟨.inr ⟨cb,b0,b1⟩,?_⟩ | refine ⟨⟨cb,b0,b1⟩,?_⟩
     refine zG rfl ?_;have kc:=zi (fun _=>False) wb (.cells #[.int .i64 op,.slice va1 who.length vc1] 34);have zc:wb.heap.size < (wb.alloc (.cells #[.int .i64 op,.slice va1 who.length vc1] 34)).heap.size:=by rw [zlH];omega
     have HGc:=zf (HGb.out.chg kc (fun k h1 h2 e=>e));have SAc:=zf ((SA.out.chg kc (fun k hk e=>e)).up (G':=fun y=>T < y∧y < (wb.alloc (.cells #[.int .i64 op,.slice va1 who.length vc1] 34)).heap.size∧(Value.slice sa0 j sc0).ownBlock≠some y) (fun y hy=>⟨hy.1,by omega,hy.2.2⟩));have Kc:=zf (Kb.out.trans (kc.mono (fun _ _ e=>e.elim)));have OX:=zf (zh wb (.cells #[.int .i64 op,.slice va1 who.length vc1] 34));have OYc:=kc.obj (fun e=>e) OBY.out;have cc:=zg (o:=1) HGc.out.1 rfl;have b0':=zg (o:=0) OYc rfl;have b1':=zg (o:=1) OYc rfl;have hYw:Y < wb.heap.size:=zu OBY.out;have OYC:=zf OYc;clear kc HGb SA Kb cb b0 b1 OYc OBY;go_wp2_with fail;generalize hXX:wb.heap.size=X at *;clear hXX;generalize wb.alloc (.cells #[.int .i64 op,.slice va1 who.length vc1] 34)=wc at *
     first | refine ⟨.inr ⟨cc,b0',b1'⟩,?_⟩ | refine ⟨⟨cc,b0',b1'⟩,?_⟩
     refine zG rfl ?_;have OWN:=HGc.out.2.1;rw [hEl] at OWN;have hTc:T < wc.heap.size:=zu HGc.out.1;refine zK rfl (.tmp 35) (.tmp 38) 35 rfl 34 2 32 Tryz.underlying35 Tryz.elemEntry T (.slice sa0 j sc0) j (ZB E) rfl OWN X [.int .i64 op,.slice va1 who.length vc1] 34 (0,0) rfl OX.out rfl (by intro u hu;simp at hu;rcases hu with rfl | rfl <;> rfl) (by omega) (by unfold maxLen;omega) (by omega) ?_;intro v5 w10 o5 g5 sn;obtain ⟨a5,c5,rfl⟩:=zl o5;obtain ⟨p1,p2⟩:=HGc.out.push (x:=(op,who)) (ev':=.slice a5 (j+1) c5) SAc.out (by rw [hEl];exact o5) (Chg.of_grown g5) sn;rw [<- TX.out] at p1;have P1:=zf p1;have P2:=zf (Kc.out.trans p2);have h10:=(Chg.of_grown g5).obj (fun e=>by have:=(HGc.out.ne e).1;omega) HGc.out.1;have hYne:(Value.slice sa0 j sc0).ownBlock≠some Y:=fun e=>by have:=HRY.out Y e;omega
     have hy10:=(Chg.of_grown g5).obj hYne OYC.out;have q1:=zg (o:=1) h10 rfl;have q2:=zg (o:=0) hy10 rfl;have q3:=zg (o:=1) hy10 rfl;have f1:=zk (o:=1) h10;clear p1 p2 o5 g5 sn OWN OX HGc SAc Kc cc h10 hy10;go_wp2_with fail
     first | refine ⟨.inr ⟨q1,q2,q3⟩,?_⟩ | refine ⟨⟨q1,q2,q3⟩,?_⟩ | skip
     refine zG rfl ?_;go_wp2_with fail
     first | refine ⟨.inr ⟨q1,q2,q3⟩,?_⟩ | refine ⟨⟨q1,q2,q3⟩,?_⟩ | skip
     refine zG rfl ?_;refine Zw rfl 35 (.tmp 40) (.tmp 39) rfl T 1 rfl (.slice a5 (j+1) c5) rfl rfl rfl Tryz.sizeEntries _ q1 f1 ?_;intro w11 hw11;rw [<- hw11] at P1 P2
     first | refine ⟨.inl rfl,ZM ?_⟩ | (unfold xz;refine ZM ?_)
     clear hw11 q1 f1 q2 q3;go_wp2;go_roundw
     case rel=>exact ⟨j+1,by omega,by go_num,zf ⟨_,_,P1.out⟩,P2⟩
     case measure=>simp [intOf];omega
    ·obtain rfl:j=ents.length:=by omega
     obtain ⟨ov,EO,hgo0⟩:=HI.out;obtain ⟨xa,xc,rfl⟩:=zl hgo0.2.1;have hEO:EO.length=k:=by have:=hgo0.2.2.len;rw [zlE] at this;omega
     have OVT:=zf (fun q (hq:(Value.slice xa EO.length xc).ownBlock=some q)=>show q < T from by have:=(hgo0.ne hq).2;have:=HT.out;omega);have hgw:=hgo0.chg KW.out (fun q h1 h2 (e:T<=q)=>by have:=HT.out;omega);rw [hEO] at hgw OVT;have HAW:=zf (KW.out.obj (fun (e:T<=A0)=>by omega) HA.out);have hge2:=HGE.out;rw [zlT] at hge2;have EA:=hge2.done;have r1:=zg (o:=1) hgw.1 rfl;have t0:=zg (o:=0) hge2.1 rfl;have t2:=zg (o:=2) hge2.1 rfl;have kx:=zi (fun _=>False) wr (.cells #[.int .i64 va,.slice sa0 ents.length sc0,.int .i64 vb] 37);have zx:wr.heap.size < (wr.alloc (.cells #[.int .i64 va,.slice sa0 ents.length sc0,.int .i64 vb] 37)).heap.size:=by rw [zlH];omega
     have HGX:=zf (hgw.chg kx (fun k h1 h2 e=>e));have EAX:=zf ((EA.chg kx (fun k hk e=>e)).up (G':=fun y=>R < y∧y < (wr.alloc (.cells #[.int .i64 va,.slice sa0 ents.length sc0,.int .i64 vb] 37)).heap.size∧(Value.slice xa k xc).ownBlock≠some y) (fun q hq=>⟨by omega,by omega,fun e=>by have:=OVT.out q e;omega⟩));have kxw:=zf kx;clear hgo0 hgw hge2 EA kx HI HGE hge HGE0 HEw HE;have OWN:=HGX.out.2.1;rw [hEO] at OWN;go_wp2_with (at_builtin;refine zK rfl (.tmp 43) (.tmp 45) 38 rfl 37 3 40 Tryz.underlying38 Tryz.elemObject R (.slice xa k xc) k (yY EO) rfl OWN wr.heap.size [.int .i64 va,.slice sa0 ents.length sc0,.int .i64 vb] 37 (0,0) rfl ?b2 rfl ?b3 ?b4 ?b5 ?b6 ?b7)
     case b2=>exact zh _ _
     case b3=>intro u hu;simp at hu;rcases hu with rfl | rfl | rfl <;> rfl
     case b4=>omega
     case b5=>unfold maxLen;omega
     case b6=>omega
     intro v5 w10 o5 g5 sn;obtain ⟨a5,c5,rfl⟩:=zl o5;obtain ⟨p1,p2⟩:=HGX.out.push (x:=⟨va,vb,ents⟩) (ov':=.slice a5 (k+1) c5) EAX.out (by rw [hEO];exact o5) (Chg.of_grown g5) sn;rw [<- TK.out] at p1;have P1:=zf p1;have P4:=zf (p2.obj (fun (e:R<=A0)=>by omega) (kxw.out.obj (fun e=>e) HAW.out));have P2:=zf (HC.out.trans ((KW.out.mono (fun x _ (e:T<=x)=>by show A0<=x;omega)).trans ((kxw.out.mono (fun _ _ e=>e.elim)).trans (p2.mono (fun x _ e=>by show A0<=x;have:R<=x:=e;omega)))));have h10:=(Chg.of_grown g5).obj (fun e=>by have:=(HGX.out.ne e).1;omega) HGX.out.1;have q1:=zg (o:=1) h10 rfl;have f1:=zk (o:=1) h10;clear p1 p2 o5 g5 sn OWN HGX EAX h10 kxw HAW KW HC HA;go_wp2;go_roundw
     case rel=>exact ⟨k+1,by omega,by go_num,zf ⟨_,_,P1.out⟩,P4,P2⟩
     case measure=>simp [intOf];omega
  ·obtain rfl:k=objs.length:=by omega
   obtain ⟨ov,EO,hgo⟩:=HI.out;rw [zlT] at hgo;obtain ⟨xa,xc,rfl⟩:=zl hgo.2.1;have hEO:EO.length=objs.length:=hgo.2.2.len;rw [hEO] at hgo;have s0:=zg (o:=0) hgo.1 rfl;have s1:=zg (o:=1) hgo.1 rfl;have a0:=zg (o:=0) HA.out rfl;have a1:=zg (o:=1) HA.out rfl;have fa0:=zk (o:=0) HA.out;have fa1:=zk (o:=1) HA.out;have HGG:=zf hgo;clear hgo HI;go_wp2;have kc:=(zA wr A0 0 (.int .i64 bo)).trans (zA (wr.setCell ⟨A0,0,none⟩ (.int .i64 bo)) A0 1 (.slice xa objs.length xc));have OF:=zq (o:=1) (zq (o:=0) HA.out (.int .i64 bo)) (.slice xa objs.length xc);have z0:=zg (o:=0) OF rfl;have z1:=zg (o:=1) OF rfl;have GF:=(HGG.out.chg kc (fun q h1 h2 (e:q=A0)=>by omega)).done;have KF:=(Chg.refl (fun _=>False) w).next (HC.out.trans (kc.mono (fun q _ (e:q=A0)=>by show A0<=q;omega))) (fun q hq (e:A0<=q)=>by have:=HA0.out;omega)
   have GF:=zf (GF.up (G':=fun q=>w.heap.size<=q∧q < _) (fun q hq=>⟨by have:=HA0.out;omega,hq.2⟩));refine bodyPost_ret (v:=.agg #[.int .i64 bo,.slice xa objs.length xc]) (by simp [results,Tryz.results21,go_sem,z0,z1]) rfl ?_;exact ⟨_,rfl,⟨_,rfl,GF.out⟩,KF⟩
end Go.Proofs.YtcilaocknhphnaaGreat
