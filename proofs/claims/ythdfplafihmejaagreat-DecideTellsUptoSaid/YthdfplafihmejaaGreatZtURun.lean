/-
  Package accept: refused, Has; cert.Rules; slices.Clone of rules. Package accept: what the run keeps in memory. Package accept: Run. Package accept: what Run answers, apart; rows of certificates.
-/
import Derived.Test.YthdfplafihmejaaGreatZtUBack
import Derived.Test.YthdfplafihmejaaGreatZtUPlain
namespace Go.Proofs.YthdfplafihmejaaGreat
open Go.RowKit Go.Maps
def ym (w:World) (v:Value) (G:Nat->Prop) (P:List (zq × Value)):Prop:=
 ∃ la cap,v=.slice la P.length cap∧P.length<=maxLen∧∀ (j:Nat) p,P[j]? = some p->∃ g o sa sc,la=some ⟨g,o,none⟩∧G g∧p.2=.slice sa p.1.fr.length sc∧w.cell? ⟨g,o+j*7,none⟩=some (.int .i64 p.1.kind) ∧
  w.cell? ⟨g,o+j*7+1,none⟩=some (.int .u16 (p.1.sg:Int))∧w.cell? ⟨g,o+j*7+2,none⟩=some (.string p.1.sp)∧w.cell? ⟨g,o+j*7+3,none⟩=some (.slice sa p.1.fr.length sc) ∧
  w.cell? ⟨g,o+j*7+4,none⟩=some (.int .i64 p.1.f)∧w.cell? ⟨g,o+j*7+5,none⟩=some (.int .i64 p.1.t)∧w.cell? ⟨g,o+j*7+6,none⟩=some (.int .i64 p.1.n)∧YI w (.slice sa p.1.fr.length sc) G p.1
theorem ym.chg {S:Nat->Prop} {w w':World} {v:Value} {G:Nat->Prop} {P:List (zq × Value)} (h:ym w v G P) (hc:Chg S w w') (hs:∀ k,G k->¬ S k):ym w' v G P:=by
 obtain ⟨la,cap,h1,h2,h3⟩:=h
 exact ⟨la,cap,h1,h2,fun j x hj=>by
  obtain ⟨g,o,sa,sc,q1,q2,q3,q4,q5,q6,q7,q8,q9,q10,q11⟩:=h3 j x hj;have n:=hs g q2;exact ⟨g,o,sa,sc,q1,q2,q3,zj hc n q4,zj hc n q5,zj hc n q6,zj hc n q7,zj hc n q8,zj hc n q9,zj hc n q10,q11.chg hc hs⟩⟩
theorem YI.up {w:World} {sv:Value} {G G':Nat->Prop} {c:zq} (h:YI w sv G c) (hg:∀ k,G k->G' k):YI w sv G' c:=⟨h.set.up hg,h.sp,h.sg⟩
theorem ym.up {w:World} {v:Value} {G G':Nat->Prop} {P:List (zq × Value)} (h:ym w v G P) (hg:∀ k,G k->G' k):ym w v G' P:=by
 obtain ⟨la,cap,h1,h2,h3⟩:=h
 exact ⟨la,cap,h1,h2,fun j x hj=>by
  obtain ⟨g,o,sa,sc,q1,q2,q3,q4,q5,q6,q7,q8,q9,q10,q11⟩:=h3 j x hj;exact ⟨g,o,sa,sc,q1,hg _ q2,q3,q4,q5,q6,q7,q8,q9,q10,q11.up hg⟩⟩
def zk (P:List (zq × Value)):List zq:=P.map (·.1)
theorem Zy {P:List (zq × Value)} {k:Nat} {p:zq × Value} (h:P[k]? = some p):(zk P)[k]? = some p.1:=by unfold zk;rw [zrb,h];rfl
theorem zQ (P:List (zq × Value)):(zk P).length=P.length:=by unfold zk;rw [zq4]
theorem za2 {C:List zq} {k:Nat} {c:zq} (h:C[k]? = some c):ZB (C.take (k+1))=ZB (C.take k)+c.fr.length:=by
 rw [zri,h];unfold ZB;simp
theorem zjk {C:List zq} {n k:Nat} {b:Int} {c:zq} (h:C[k]? = some c) (hc:ZD c=false):zeU n C b=2:=by
 unfold zeU;rw [if_neg];intro q;rw [zrh] at q;rw [q c (zq2 h)] at hc;cases hc
theorem zg2 {C:List zq} {n:Nat} {b:Int} (h:∀ (j:Nat) c,j < C.length->C[j]? = some c->ZD c=true):zeU n C b=if 400 < n+ZB C then 3 else if b < 1∨5000 < b then 1 else 0:=by
 unfold zeU;rw [if_pos];rw [zrh];intro c hc;obtain ⟨j,hj⟩:=List.mem_iff_getElem?.1 hc;exact h j c (zq1.1 hj).1 hj
theorem Xx {c:zq} (h:ZD c=true):1<=c.fr.length∧c.fr.length<=16:=by
 obtain ⟨y,z,_⟩:=of_decide_eq_true (zcv h).fr;rw [Zr] at y z;exact ⟨y,z⟩
def zm6 (w:World) (k:Int) (e:Ending) (w':World):Prop:=e=.returned (.int .i64 k)∧Chg (fun _=>False) w w'
set_option maxHeartbeats 4000000 in
set_option maxRecDepth 100000 in
theorem zik (w:World) (ra:Option Addr) (R:List zF) (rc:Nat) (v:Value) (P:List (zq × Value)) (b:Int) (G:Nat->Prop) (hv:ym w v G P) (hR:R.length<=140737488355328) (hP:P.length<=1000):
  Calls Tryz.prog 117 #[.slice ra R.length rc,v,.int .i64 b] w (zm6 w (zeU R.length (zk P) b)):=by
 have HV:=ze hv;obtain ⟨la,cap,rfl,_,_⟩:=hv;have BAD:=ze (fun k c=>@zjk (zk P) R.length k b c);have GOOD:=ze (@zg2 (zk P) R.length b);have CG:=ze (fun k p (h:P[k]? = some p)=>Zy h);have CL:=ze (zQ P);unfold zm6;generalize zeU R.length (zk P) b=res at *;generalize zk P=C at *;generalize hRl:R.length=rl at *;go_enter Tryz.func117,Tryz.ntmps117;go_wp2;go_loopw [7,14] (fun nv iv wr=>∃ k n:Nat,k<=P.length∧n<=rl+16*k∧nv=.int .i64 n∧iv=.int .i64 k∧Hid (n=rl+ZB (C.take k)∧(∀ (j:Nat) c,j < k->C[j]? = some c->ZD c=true)∧Chg (fun _=>False) w wr)) (fun _ iv _=>P.length - (intOf iv).toNat)
 case atStart=>exact ⟨0,rl,by omega,by omega,rfl,rfl,ze ⟨by simp [ZB],fun j c hj=>by omega,Chg.refl _ _⟩⟩
 case round=>
  obtain ⟨k,n,hk,hn,rfl,rfl,HI⟩:=hrel;obtain ⟨hne,hall,hkc⟩:=HI.out;have NE:=ze hne;have ALL:=ze hall;have KC:=ze hkc;clear HI hne hall hkc;by_cases hlt:k < P.length
  rotate_left
  ·obtain rfl:k=P.length:=by omega
   have R0:=GOOD.out (fun j c hj=>ALL.out j c (by rw [<- CL.out];exact hj));rw [show rl+ZB C=n by rw [NE.out,List.take_of_length_le (by rw [CL.out];exact zrj _)]] at R0;have RR:=ze R0;clear R0;by_cases h4:400 < n
   ·have g4:decide (400 < (n:Int))=true:=zqY (by omega)
    have RV:=ze (show res=3 by rw [RR.out,if_pos h4]);go_wp2;go_ret;exact ⟨by rw [RV.out];rfl,KC.out⟩
   have g4:decide (400 < (n:Int))=false:=zqZ (by omega);by_cases h5:b < 1
   ·have g5:decide (b < 1)=true:=zqY h5
    have RV:=ze (show res=1 by rw [RR.out,if_neg h4,if_pos (.inl h5)]);clear RR h4 h5;go_wp2;go_ret;exact ⟨by rw [RV.out];rfl,KC.out⟩
   have g5:decide (b < 1)=false:=zqZ h5;by_cases h6:5000 < b
   ·have g6:decide (5000 < b)=true:=zqY h6
    have RV:=ze (show res=1 by rw [RR.out,if_neg h4,if_pos (.inr h6)]);clear RR h4 h5 h6;go_wp2;go_ret;exact ⟨by rw [RV.out];rfl,KC.out⟩
   have g6:decide (5000 < b)=false:=zqZ h6;have RV:=ze (show res=0 by rw [RR.out,if_neg h4,if_neg (by omega)]);clear RR h4 h5 h6;go_wp2;go_ret;exact ⟨by rw [RV.out];rfl,KC.out⟩
  obtain ⟨⟨c,sv⟩,hp⟩:∃ p,P[k]? = some p:=⟨_,zq0 hlt⟩;obtain ⟨_,_,e1,_,hcl⟩:=HV.out.chg KC.out (fun _ _ e=>e);cases e1;obtain ⟨g,o,sa,sc,rfl,hgg,hsv,c0,c1,c2,c3,c4,c5,c6,hca⟩:=hcl k _ hp;simp only at hsv;subst hsv;have HP:=ze (CG.out _ _ hp);clear hcl hp hgg;simp only at c0 c1 c2 c3 c4 c5 c6 hca HP;have ka:=zi (fun _=>False) wr (.cells #[.int .i64 c.kind,.int .u16 (c.sg:Int),.string c.sp,.slice sa c.fr.length sc,.int .i64 c.f,.int .i64 c.t,.int .i64 c.n] 64);have oa:=zh wr (.cells #[.int .i64 c.kind,.int .u16 (c.sg:Int),.string c.sp,.slice sa c.fr.length sc,.int .i64 c.f,.int .i64 c.t,.int .i64 c.n] 64);have CH:=zeD (wr.alloc (.cells #[.int .i64 c.kind,.int .u16 (c.sg:Int),.string c.sp,.slice sa c.fr.length sc,.int .i64 c.f,.int .i64 c.t,.int .i64 c.n] 64)) c sa sc G (hca.chg ka (fun _ _ e=>e));have HB:=ze (@Xx c)
  have CB:=ze (fun (j:Nat) d (hj:j < k+1) (hd:C[j]? = some d) (q:ZD c=true)=>(show ZD d=true by
   rcases Nat.lt_or_ge j k with h | h
   ·exact ALL.out j d h hd
   ·obtain rfl:j=k:=by omega
    rw [HP.out] at hd;cases hd;exact q))
  have BD:=ze (BAD.out k c HP.out);have NS:=ze (za2 HP.out);unfold xZ at CH;generalize ZD c=cb at *;obtain ⟨kind,sg,sp,fr,f,t,num⟩:=c;unfold xI at CH;simp only at c0 c1 c2 c3 c4 c5 c6 CH ka oa NS HB;have CH:=ze CH;have KA:=ze (KC.out.trans ka);have OA:=ze oa;clear ka oa hca HP;go_wp2_with fail;generalize wr.alloc (.cells #[.int .i64 kind,.int .u16 (sg:Int),.string sp,.slice sa fr.length sc,.int .i64 f,.int .i64 t,.int .i64 num] 64)=w1 at *;(with_reducible refine CH.out.mono ?_);rintro e w2 ⟨⟨x,rfl,hx⟩,k2⟩;have O2:=ze (k2.obj (fun e=>e) OA.out);have K2:=ze (KA.out.trans k2);clear CH k2 KA OA c0 c1 c2 c3 c4 c5 c6;cases cb with
  | false=>
   have g1:(x != 0)=true:=by rw [zre];intro e;exact absurd (hx.1 e) (by decide)
   have RV:=ze (BD.out rfl);clear hx;go_wp2;go_ret;exact ⟨by rw [RV.out];rfl,K2.out⟩
  | true=>
   have g1:(x != 0)=false:=by rw [hx.2 rfl];rfl
   have d3:=zf (o:=3) O2.out rfl;have hfl:=(HB.out rfl).2;have w1':IntKind.i64.wrap ((n:Int)+(fr.length:Int))=((n+fr.length:Nat):Int):=by rw [IntKind.wrap_i64];omega
   clear hx;go_wp2;go_roundw
   case rel=>exact ⟨k+1,n+fr.length,by omega,by omega,by first | trivial | rfl | go_num,by first | trivial | go_num,ze ⟨by rw [NS.out,NE.out];omega,fun j d hj hd=>CB.out j d hj hd (by trivial),K2.out⟩⟩
   case measure=>simp [intOf];omega
theorem zaE (c:zq):(yr c).length=c.fr.length:=by unfold yr;rw [zq4]
def yL (c:zq) (k:Nat):List zF:=(c.fr.take k).map fun w=>(w,c.sp)
theorem zct {c:zq} {k:Nat} {x:ByteArray} (h:c.fr[k]? = some x):yL c (k+1)=yL c k++[(x,c.sp)]:=by
 unfold yL;rw [zri,h,List.map_append];rfl
theorem zbb {c:zq} {k:Nat} (h:k<=c.fr.length):(yL c k).length=k:=by
 unfold yL;rw [zq4,zq5,Nat.min_eq_left h]
set_option maxHeartbeats 2000000 in
set_option maxRecDepth 100000 in
theorem zfH (w:World) (c:zq) (sa:Option Addr) (sc:Nat) (G:Nat->Prop) (h:YI w (.slice sa c.fr.length sc) G c) (hl:c.fr.length<=1000):
  Calls Tryz.prog 57 #[xI c (.slice sa c.fr.length sc)] w fun e w'=>∃ v,e=.returned v∧w'.ownsRow w.heap.size 66 2 v (yr c).length (zD (yr c))∧Chg (fun _=>False) w w':=by
 have ka:=zi (fun _=>False) w (.cells #[.int .i64 c.kind,.int .u16 (c.sg:Int),.string c.sp,.slice sa c.fr.length sc,.int .i64 c.f,.int .i64 c.t,.int .i64 c.n] 64);have oa:=zh w (.cells #[.int .i64 c.kind,.int .u16 (c.sg:Int),.string c.sp,.slice sa c.fr.length sc,.int .i64 c.f,.int .i64 c.t,.int .i64 c.n] 64);have HS:=ze (h.set.at_.chg ka (fun _ _ e=>e));have SU:=ze (fun k x=>@zct c k x);have LE:=ze (fun k=>@zbb c k);have FIN:=ze (show yr c=yL c c.fr.length by unfold yr yL;rw [zrk]);have Z:=ze (show yL c 0=[] by unfold yL;simp);rw [FIN.out];generalize yL c=T at *;obtain ⟨kind,sg,sp,fr,f,t,n⟩:=c;unfold xI;simp only at ka oa HS SU LE hl ⊢;have c2:=zf (o:=2) oa rfl;have c3:=zf (o:=3) oa rfl;have hs1:w.heap.size < (w.alloc (.cells #[.int .i64 kind,.int .u16 (sg:Int),.string sp,.slice sa fr.length sc,.int .i64 f,.int .i64 t,.int .i64 n] 64)).heap.size:=by rw [zq8];omega
 have KA:=ze ka;have OA:=ze oa;obtain ⟨ri,rz,hri,hrz,q1,q2,q3,q4⟩:=Tryz.elemRule;clear ka oa h FIN;go_enter Tryz.func57,Tryz.ntmps57;go_wp2_with (at_make;refine wpList_make_own _ rfl (.const (.int .i64 0)) (.tmp 8) 22 rfl _ 66 ri rz 2 Tryz.underlying22 hri hrz q1 .i64 .i64 (fr.length:Int) fr.length rfl rfl rfl ?b2 ?b3 (zrj _) ?next)
 case b2=>rw [q2];omega
 case b3=>unfold maxLen;omega
 case next=>
  intro w3 own3 g3;generalize hw1:w.alloc (.cells #[.int .i64 kind,.int .u16 (sg:Int),.string sp,.slice sa fr.length sc,.int .i64 f,.int .i64 t,.int .i64 n] 64)=w1 at *;have hs2:w1.heap.size=w.heap.size+1:=by rw [<- hw1,zq8]
  clear hw1;have K3:=ze (show Chg (fun _=>False) w1 w3 from (Chg.of_grown g3).mono (fun _ _ e=>by cases e));have O3:=ze own3;have HS3:=ze (HS.out.chg K3.out (fun _ _ e=>e));have OA3:=ze (K3.out.obj (fun e=>e) OA.out);have e3:=zf (o:=3) OA3.out rfl;clear own3 g3 c2 c3;go_wp2_with fail;go_loopw [3,13] (fun v iv wr=>∃ k:Nat,k<=fr.length∧iv=.int .i64 k∧Hid (wr.ownsRow (w.heap.size+1) 66 2 v (T k).length (zD (T k))∧Chg (fun _=>False) w1 wr)) (fun _ iv _=>fr.length - (intOf iv).toNat)
  case atStart=>exact ⟨0,by omega,rfl,ze ⟨by rw [Z.out];exact O3.out,K3.out⟩⟩
  case round=>
   obtain ⟨k,hk,rfl,HI⟩:=hrel;obtain ⟨ab,cb,eb⟩:=zl HI.out.1;subst eb;have HO:=ze HI.out.1;have KC:=ze HI.out.2;have tl:(T k).length<=1000:=by rw [LE.out k hk];omega
   clear HI;by_cases hlt:k < fr.length
   ·obtain ⟨x,hx⟩:∃ x,fr[k]? = some x:=⟨_,zq0 hlt⟩
    obtain ⟨_,_,e1,_,hcl⟩:=HS.out.chg KC.out (fun _ _ e=>e);cases e1;obtain ⟨lb,lo,rfl,_,x0,hxs⟩:=hcl k x hx;have NX:=ze (SU.out k x hx);have d2:=zf (o:=2) (KC.out.obj (fun e=>e) OA.out) rfl;have hb4:w1.heap.size<=wr.heap.size:=KC.out.size;clear hcl hx e3;go_wp2_with (at_builtin;refine Zd rfl (.tmp 17) (.tmp 22) 22 rfl 66 2 32 Tryz.underlying22 Tryz.elemRule (w.heap.size+1) _ _ _ rfl (HO.out.alloc _) _ [.string x,.string sp] 66 (0,0) rfl (zh _ _) rfl ?a1 ?a2 ?a3 ?a4 ?a5)
    case a1=>intro u hu;simp at hu;rcases hu with rfl | rfl <;> rfl
    case a2=>omega
    case a3=>unfold maxLen;omega
    case a4=>rw [zq8];omega
    intro v5 w5 o5 g5;have kk:=(zi (fun j=>w.heap.size+1<=j) wr (.cells #[.string x,.string sp] 66)).grown g5 (fun j hj _=>(HO.out.lt j hj).1)
    have O5:=ze (show w5.ownsRow (w.heap.size+1) 66 2 v5 (T (k+1)).length (zD (T (k+1))) from by
     rw [NX.out,zq3,yQ];exact o5)
    have K5:=ze (show Chg (fun _=>False) w1 w5 from KC.out.next kk (fun j hj e=>by omega));clear kk o5 g5 x0 d2 HO KC;go_wp2;go_roundw
    case rel=>exact ⟨k+1,by omega,by go_num,ze ⟨O5.out,K5.out⟩⟩
    case measure=>simp [intOf];omega
   ·obtain rfl:k=fr.length:=by omega
    go_wp2;go_ret;exact ⟨_,rfl,ZP HO.out (by omega),KA.out.trans KC.out⟩
set_option maxRecDepth 100000 in
theorem zfn (w:World) (ra:Option Addr) (R:List zF) (rc:Nat) (G:Nat->Prop) (hv:zX w (.slice ra R.length rc) G R) (hnil:ra=none->R.length=0∧rc=0) (hl:R.length<=1000000000):
  Calls Tryz.prog 72 #[.slice ra R.length rc] w fun e w'=>∃ v,e=.returned v∧w'.ownsRow w.heap.size 66 2 v R.length (zD R)∧Chg (fun _=>False) w w':=by
 have EQN:=fun w=>Lib.run_eql_slice_nil (P:=Tryz.prog) w 22 _ ra R.length rc 0 0 Tryz.underlying22;cases ra with
 | none=>
  obtain ⟨h0,rfl⟩:=hnil rfl;have:R=[]:=List.eq_nil_of_length_eq_zero h0;subst this;clear hv hnil h0 hl;simp only [List.length_nil] at EQN ⊢;go_enter Tryz.func72,Tryz.ntmps72;go_wp2;go_ret;exact ⟨_,rfl,World.ownsRow_nil _ _ _ _,Chg.refl _ _⟩
 | some ad=>
  have SRC:=ze (zaV hv);have ONE:=ze (YO R);have LEN:=ze (yt R);clear hv hnil;generalize zD R=cells at *;go_enter Tryz.func72,Tryz.ntmps72;go_wp2_with (at_builtin;refine zV rfl (.tmp 5) (.tmp 6) 22 rfl 66 2 32 Tryz.underlying22 Tryz.elemRule w.heap.size _ 0 [] rfl (ZH _ _ _ _ (zrj _)) (some ad) R.length rc cells rfl ?a1 ?a2 ?a3 ?a4 ?a5 ?a6 ?a7 ?nx1)
  case a1=>exact LEN.out
  case a2=>
   intro j u hj;obtain ⟨g',o',e,c1⟩:=SRC.out j u hj;exact ⟨g',o',e,zj (zi (fun _=>False) w _) (fun e=>e) c1⟩
  case a3=>intro e;cases e
  case a4=>exact ONE.out
  case a5=>omega
  case a6=>unfold maxLen;omega
  case a7=>simp
  intro v8 w8 o8 g8;obtain ⟨a8,c8,rfl⟩:=zl o8
  have k8:Chg (fun _=>False) w w8:=(zi (fun _=>False) w (.cells #[] 66)).next (Chg.of_grown g8) (fun x hx e=>by
   have e2:w.heap.size=x:=by simpa [Value.ownBlock] using e
   omega)
  have K8:=ze k8;have O8:=ze (show w8.ownsRow w.heap.size 66 2 (.slice a8 (0+R.length) c8) R.length cells from by simpa using o8);clear o8 g8 k8;go_wp2;go_ret;exact ⟨_,rfl,(by have:=O8.out;rw [Nat.zero_add] at this;exact this),K8.out⟩
theorem Xm {w:World} {base:Nat} {v:Value} {L:List zF} (h:w.ownsRow base 66 2 v L.length (zD L)) (hs:∀ r∈L,r.1.size<=maxLen∧r.2.size<=maxLen):zX w v (fun k=>v.ownBlock=some k) L:=by
 have h0:=h;obtain ⟨h1,⟨rfl,h2⟩ | ⟨g,cap,cur,rfl,hg,hh,q1,q2,q3,q4⟩⟩:=h
 ·refine ⟨none,0,by rw [h2],by rw [h2];unfold maxLen;omega,fun j x hj=>?_⟩
  have:j < L.length:=(zq1.1 hj).1;omega
 ·refine ⟨_,cap,rfl,by omega,fun j x hj=>?_⟩
  have hj':j < L.length:=(zq1.1 hj).1;obtain ⟨c1,c2⟩:=xW L j x hj;obtain ⟨z1,z2⟩:=hs x (zq2 hj);refine ⟨g,0,rfl,rfl,?_,?_,z1,z2⟩
  ·rw [Nat.zero_add,h0.cellAt (j:=j*2) (by omega)];exact c1
  ·rw [Nat.zero_add,h0.cellAt (j:=j*2+1) (by omega)];exact c2
theorem zek {w:World} {base:Nat} {e:TypeId} {size n m c:Nat} {a:Option Addr} {xs:List Value} (h:w.ownsRow base e size (.slice a n c) m xs):m<=c:=by
 obtain ⟨_,⟨q,rfl⟩ | ⟨g,cap,cur,q,_,_,q1,_⟩⟩:=h
 ·exact Nat.zero_le _
 ·cases q;exact q1
theorem Yo {w:World} {base:Nat} {e:TypeId} {size n:Nat} {v:Value} {xs:List Value} (h:w.ownsRow base e size v n xs) {k:Nat} {cs:Array Value} {t:TypeId} {fz:Nat × Nat} (ho:w.heap[k]? = some (.cells cs t fz)) (ne:t≠e):v.ownBlock≠some k:=
 fun hk=>ne (xF h hk ho)
theorem zjq {w:World} {k j:Nat} {cs ds:Array Value} {t e:TypeId} {fz gz:Nat × Nat} (h:w.heap[k]? = some (.cells cs t fz)) (h':w.heap[j]? = some (.cells ds e gz)) (ne:t≠e):k≠j:=fun q=>by
 subst q;rw [h] at h';injection h' with h';injection h' with _ h2;exact ne h2
theorem Xy.grow {S:Nat->Prop} {w w':World} {lk mS nS:Nat} {fS:Lit->Option Value} {C:Nat->Prop} {ra ra':Option Addr} {R M:List zF} {rc rc':Nat} {b:Int} {G G':Nat->Prop} (h:Xy w lk mS nS fS C ra R rc b G) (hc:Chg S w w') (h2:¬ S mS) (h3:∀ k,C k->¬ S k)
  (own':w'.heap[lk]? = some (.cells #[.slice ra' (R++M).length rc',.int .i64 b,.map (some mS)] 192 (0,0))) (rules':zX w' (.slice ra' (R++M).length rc') G' (R++M)) (few':(R++M).length<=400∧∀ r∈R++M,r.1.size<=400) (hcap:(R++M).length<=rc')
  (gb':∀ k,G' k->k < w'.heap.size∧k≠mS∧k≠lk):Xy w' lk mS nS fS C ra' (R++M) rc' b G':=
 ⟨own',h.map.chg hc h2,rules',.inl few',fun x v hv=>by
  obtain ⟨n,a,L,c,e,q1,q2,q3,q4,q5⟩:=h.row x v hv;exact ⟨n,a,L,c,e,by rw [zq3];omega,.inr hcap,q3.chg hc h3,by rw [List.take_append_of_le_length q1];exact q4,q5⟩,fun k hk=>by
  obtain ⟨cs,q⟩:=h.typ k hk;exact ⟨cs,hc.obj (h3 k hk) q⟩,gb'⟩
def xL (n:Nat) (Il:List Nat):List Value:=(List.range n).map fun j=>.bool (decide (j∈Il))
theorem xy (n:Nat) (Il:List Nat):(xL n Il).length=n:=by unfold xL;rw [zq4,List.length_range]
theorem Xu {n:Nat} {Il:List Nat} {j:Nat} (h:j < n):(xL n Il)[j]? = some (.bool (decide (j∈Il))):=by
 unfold xL;rw [zrb,List.getElem?_range h];rfl
theorem zeu {n:Nat} {Il:List Nat} {i:Nat} (_:i < n):(xL n Il).set i (.bool true)=xL n (Il++[i]):=by
 apply List.ext_getElem?;intro j;by_cases hj:j < n
 ·rw [Xu hj]
  by_cases e:i=j
  ·subst e
   rw [List.getElem?_set_self (by rw [xy];exact hj)];simp
  ·rw [List.getElem?_set_ne e,Xu hj]
   have:(j∈Il++[i])↔j∈Il:=by simp [Ne.symm e]
   simp only [this]
 ·rw [zrg (by rw [List.length_set,xy];omega),zrg (by rw [xy];omega)]
theorem za6 (n:Nat):(madeCells #[Value.bool false] n).toList=xL n []:=by
 unfold madeCells xL;apply List.ext_getElem?;intro j;simp only [Array.toList_map,Array.toList_range,zrb];by_cases hj:j < n
 ·rw [List.getElem?_range hj]
  simp [Nat.mod_one]
 ·rw [zrg (by simp;omega)];rfl
theorem zkh {w:World} {base:Nat} {e:TypeId} {n g cap:Nat} {xs:List Value} (h:w.ownsRow base e 1 (.slice (some ⟨g,0,none⟩) n cap) n xs):base<=g∧zdw w g e xs:=by
 obtain ⟨h1,⟨q,_⟩ | ⟨g',cap,cur,q,hg,hh,q1,q2,q3,q4⟩⟩:=h
 ·cases q
 ·cases q
  refine ⟨hg,cur.toList.drop n,?_⟩;rw [hh];have:xs++cur.toList.drop n=cur.toList:=by rw [<- q4,Nat.mul_one,zrd]
  rw [this,Array.toArray_toList]
structure xr (w:World) (base lk mS gi ro n:Nat) (b:Int) (N:Nat) (Rl:List zF) (Ol Il:List Nat) (ra:Option Addr) (rc:Nat) (ov:Value):Prop where
 look:∃ fS nS C,Xy w lk mS nS fS C ra Rl rc b (fun k=>(Value.slice ra Rl.length rc).ownBlock=some k)∧nS<=N∧∀ k,C k->base<=k
 rul:w.ownsRow base 66 2 (.slice ra Rl.length rc) Rl.length (zD Rl)
 ord:w.ownsRow base 3 1 ov Ol.length (Yj Ol)
 inr:zdw w gi 4 (xL n Il)
 res:w.heap[ro]? = some (.cells #[.slice none 0 0,.slice none 0 0] 165 (0,0))
 lo:base<=lk∧base<=mS∧base<=gi∧base<=ro
 few:Rl.length<=400∧∀ r∈Rl,r.1.size<=400∧r.2.size<=maxLen
section
variable {w w':World} {base lk mS gi ro n:Nat} {b:Int} {N:Nat} {Rl:List zF} {Ol Il:List Nat} {ra:Option Addr} {rc:Nat} {ov:Value}
theorem xr.lookObj (h:xr w base lk mS gi ro n b N Rl Ol Il ra rc ov):w.heap[lk]? = some (.cells #[.slice ra Rl.length rc,.int .i64 b,.map (some mS)] 192 (0,0)):=by
 obtain ⟨_,_,_,q,_⟩:=h.look;exact q.own
theorem xr.inObj (h:xr w base lk mS gi ro n b N Rl Ol Il ra rc ov):∃ cs,w.heap[gi]? = some (.cells cs 4 (0,0)):=by
 obtain ⟨rest,q⟩:=h.inr;exact ⟨_,q⟩
theorem xr.chg0 (h:xr w base lk mS gi ro n b N Rl Ol Il ra rc ov) (hc:Chg (fun _=>False) w w'):xr w' base lk mS gi ro n b N Rl Ol Il ra rc ov:=by
 obtain ⟨fS,nS,C,q1,q2,q3⟩:=h.look;exact ⟨⟨fS,nS,C,q1.chg hc (fun e=>e) (fun e=>e) (fun _ _ e=>e) (fun _ _ e=>e),q2,q3⟩,zn h.rul hc (fun _ _ e=>e),zn h.ord hc (fun _ _ e=>e),h.inr.chg hc (fun e=>e),hc.obj (fun e=>e) h.res,h.lo,h.few⟩
theorem xr.lookAt (h:xr w base lk mS gi ro n b N Rl Ol Il ra rc ov):XQ w lk mS ra Rl rc b (fun k=>(Value.slice ra Rl.length rc).ownBlock=some k) N (fun k=>base<=k∧k < w.heap.size):=by
 obtain ⟨fS,nS,C,q1,q2,q3⟩:=h.look;obtain ⟨_,_,n3,n4,n5⟩:=q1.ne;exact ⟨fS,nS,C,q1,q2,fun k hk=>⟨q3 k hk,n3 k hk⟩,⟨h.lo.1,n4⟩,⟨h.lo.2.1,n5⟩,fun k hk=>hk.2⟩
theorem xr.back (h:xr w base lk mS gi ro n b N Rl Ol Il ra rc ov) {N':Nat} {B:Nat->Prop} (hl:XQ w' lk mS ra Rl rc b (fun k=>(Value.slice ra Rl.length rc).ownBlock=some k) N' B) (hc:Chg (·=mS) w w') (hb:∀ k,B k->base<=k):xr w' base lk mS gi ro n b N' Rl Ol Il ra rc ov:=by
 obtain ⟨fS,nS,C,q1,q2,q3⟩:=h.look;obtain ⟨fT,nT,D,p1,p2,p3,_⟩:=hl;obtain ⟨ic,hi⟩:=h.inObj
 exact ⟨⟨fT,nT,D,p1,p2,fun k hk=>hb k (p3 k hk)⟩,zn h.rul hc (fun k hk=>(q1.gb k hk).2.1),zn h.ord hc (fun k hk=>by
  obtain ⟨cs,z⟩:=zC h.ord hk;exact q1.map.ne_cells z),h.inr.chg hc (q1.map.ne_cells hi),hc.obj (q1.map.ne_cells h.res) h.res,h.lo,h.few⟩
theorem xr.setIn (h:xr w base lk mS gi ro n b N Rl Ol Il ra rc ov) {i:Nat} (hi:i < n):xr (w.setCell ⟨gi,i,none⟩ (.bool true)) base lk mS gi ro n b N Rl Ol (Il++[i]) ra rc ov:=by
 have hc:=zG w gi i (.bool true);obtain ⟨fS,nS,C,q1,q2,q3⟩:=h.look;obtain ⟨ic,ho⟩:=h.inObj
 refine ⟨⟨fS,nS,C,q1.chg hc (zjq q1.own ho (by decide)) (fun e=>q1.map.ne_cells ho e.symm) (fun k hk e=>by
   obtain ⟨cs,z⟩:=q1.typ k hk;exact zjq z ho (by decide) e) (fun k hk e=>Yo h.rul ho (by decide) (e ▸ hk)),q2,q3⟩,zn h.rul hc (fun k hk e=>Yo h.rul ho (by decide) (e ▸ hk)),zn h.ord hc (fun k hk e=>Yo h.ord ho (by decide) (e ▸ hk)),?_,hc.obj (zjq h.res ho (by decide)) h.res,h.lo,h.few⟩
 have:=h.inr.set (i:=i) (by rw [xy];exact hi) (.bool true);rwa [zeu hi] at this
theorem xr.push {S:Nat->Prop} (h:xr w base lk mS gi ro n b N Rl Ol Il ra rc ov) {i:Nat} {v5:Value} (o5:w'.ownsRow base 3 1 v5 (Ol++[i]).length (Yj (Ol++[i]))) (hc:Chg S w w') (hS:∀ k,S k->ov.ownBlock=some k):xr w' base lk mS gi ro n b N Rl (Ol++[i]) Il ra rc v5:=by
 obtain ⟨fS,nS,C,q1,q2,q3⟩:=h.look;obtain ⟨ic,ho⟩:=h.inObj;have key:∀ {k cs t fz},w.heap[k]? = some (.cells cs t fz)->t≠3->¬ S k:=fun hk ne q=>Yo h.ord hk ne (hS _ q)
 have key2:∀ k,(Value.slice ra Rl.length rc).ownBlock=some k->¬ S k:=fun k hk=>by
  obtain ⟨cs,z⟩:=zC h.rul hk;exact key z (by decide)
 refine ⟨⟨fS,nS,C,q1.chg hc (key q1.own (by decide)) (fun e=>?_) (fun k hk=>?_) key2,q2,q3⟩,zn h.rul hc key2,o5,h.inr.chg hc (key ho (by decide)),hc.obj (key h.res (by decide)) h.res,h.lo,h.few⟩
 ·obtain ⟨cs,z⟩:=zC h.ord (hS _ e)
  exact q1.map.ne_cells z rfl
 ·obtain ⟨cs,z⟩:=q1.typ k hk
  exact key z (by decide)
theorem xr.grow {S:Nat->Prop} (h:xr w base lk mS gi ro n b N Rl Ol Il ra rc ov) {M:List zF} {ra':Option Addr} {rc':Nat} (o5:w'.ownsRow base 66 2 (.slice ra' (Rl++M).length rc') (Rl++M).length (zD (Rl++M))) (hc:Chg S w w') (hS:∀ k,S k->(Value.slice ra Rl.length rc).ownBlock=some k)
  (few':(Rl++M).length<=400∧∀ r∈Rl++M,r.1.size<=400∧r.2.size<=maxLen):xr (w'.setCell ⟨lk,0,none⟩ (.slice ra' (Rl++M).length rc')) base lk mS gi ro n b N (Rl++M) Ol Il ra' rc' ov:=by
 obtain ⟨fS,nS,C,q1,q2,q3⟩:=h.look;obtain ⟨ic,ho⟩:=h.inObj;have hk2:=(hc.mono (T:=fun k=>S k∨k=lk) (fun _ _ e=>.inl e)).trans ((zG w' lk 0 (.slice ra' (Rl++M).length rc')).mono (fun _ _ e=>.inr e))
 have key:∀ {k cs t fz},w.heap[k]? = some (.cells cs t fz)->t≠66->t≠192->¬ (S k∨k=lk):=fun hk ne ne2 q=>by
  rcases q with q | q
  ·exact Yo h.rul hk ne (hS _ q)
  ·exact zjq hk q1.own ne2 q
 have olk:w'.heap[lk]? = some (.cells #[.slice ra Rl.length rc,.int .i64 b,.map (some mS)] 192 (0,0)):=hc.obj (fun q=>Yo h.rul q1.own (by decide) (hS _ q)) q1.own;have olk':(w'.setCell ⟨lk,0,none⟩ (.slice ra' (Rl++M).length rc')).heap[lk]? = some (.cells #[.slice ra' (Rl++M).length rc',.int .i64 b,.map (some mS)] 192 (0,0)):=zt (o:=0) olk _;have o6:(w'.setCell ⟨lk,0,none⟩ (.slice ra' (Rl++M).length rc')).ownsRow base 66 2 (.slice ra' (Rl++M).length rc') (Rl++M).length (zD (Rl++M)):=zn o5 (zG _ _ _ _) (fun k hk e=>Yo o5 olk (by decide) (e ▸ hk))
 have hm:¬ (S mS∨mS=lk):=fun q=>by
  rcases q with q | q
  ·obtain ⟨cs,z⟩:=zC h.rul (hS _ q)
   exact q1.map.ne_cells z rfl
  ·exact q1.map.ne_cells q1.own q.symm
 refine ⟨⟨fS,nS,C,q1.grow hk2 hm (fun k hk=>?_) olk' (Xm o6 (fun r hr=>by have:=few'.2 r hr;unfold maxLen at *;omega)) ⟨few'.1,fun r hr=>(few'.2 r hr).1⟩ (zek o5) (fun k hk=>⟨(o6.lt k hk).2,?_,row_ne' o6 olk' (by decide) hk⟩),q2,q3⟩,o6,zn h.ord hk2 (fun k hk=>?_),h.inr.chg hk2 (key ho (by decide) (by decide)),hk2.obj (key h.res (by decide) (by decide)) h.res,h.lo,few'⟩
 ·obtain ⟨cs,z⟩:=q1.typ k hk
  exact key z (by decide) (by decide)
 ·obtain ⟨cs,z⟩:=zC o6 hk
  exact (q1.map.chg hk2 hm).ne_cells z
 ·obtain ⟨cs,z⟩:=zC h.ord hk
  exact key z (by decide) (by decide)
where
 row_ne' {w:World} {base:Nat} {e:TypeId} {size n:Nat} {v:Value} {xs:List Value} (h:w.ownsRow base e size v n xs) {k j:Nat} {cs:Array Value} {t:TypeId} {fz:Nat × Nat} (ho:w.heap[j]? = some (.cells cs t fz)) (ne:t≠e) (hk:v.ownBlock=some k):k≠j:=fun q=>Yo h ho ne (q ▸ hk)
end
theorem Tryz.sizeRulesS:(Tryz.prog.info? 22).map (·.size)=some 1:=by kernel_rfl
theorem Tryz.elemBool':Zt Tryz.prog 4 1 1:=Zj (z:=.bool false) (by kernel_rfl) rfl (by decide)
theorem Tryz.elemInt':Zt Tryz.prog 3 1 8:=Zj (z:=.int .i64 0) (by kernel_rfl) rfl (by decide)
def zjI (w:World) (R:List zF) (C:List zq) (b:Int) (e:Ending) (w':World):Prop:=
 Chg (fun _=>False) w w'∧((∃ k,k≠0∧Zc R C b=.error k∧e=.returned (.tuple #[.agg #[.slice none 0 0,.slice none 0 0],.int .i64 k])) ∨
  ∃ (s:ASt) (oa va:Option Addr) (oc vc:Nat),Zc R C b=.ok s∧e=.returned (.tuple #[.agg #[.slice oa s.order.length oc,.slice va s.rules.length vc],.int .i64 0]) ∧
   w'.ownsRow w.heap.size 3 1 (.slice oa s.order.length oc) s.order.length (Yj s.order)∧w'.ownsRow w.heap.size 66 2 (.slice va s.rules.length vc) s.rules.length (zD s.rules))
theorem zfM {R:List zF} {C:List zq} {b:Int} (h:zeU R.length C b≠0):Zc R C b=.error (zeU R.length C b):=if_neg h
theorem zhH {R:List zF} {C:List zq} {b:Int} (h:zeU R.length C b=0):Zc R C b=zia C b (C.length+1) ⟨[],R⟩:=if_pos h
def Way (R:List zF) (C:List zq) (b:Int) (m:Nat) (s:ASt):Prop:=
 (m<=s.order.length∧∃ f,Zc R C b=zia C b f s∧C.length < f+s.order.length)∨(m=s.order.length+1∧Zc R C b=.ok s)
theorem Way.next {R:List zF} {C:List zq} {b:Int} {m:Nat} {s u:ASt} (h:Way R C b m s) (hm:m<=s.order.length) (hi:zab R C b s) (hp:YJ C b s C.length=.ok u):Way R C b (s.order.length+1) u:=by
 rcases h with ⟨_,f,e,hf⟩ | ⟨q,_⟩
 ·obtain ⟨a1,a2,_⟩:=hi.pass _ hp
  have hl:=a2.length_le;cases f with
  | zero=>have:=yS hi.nd hi.lt;omega
  | succ f=>
   unfold zia at e;rw [hp] at e;simp only at e;by_cases q:u.order.length=s.order.length
   ·rw [if_pos q] at e
    exact .inr ⟨by omega,e⟩
   ·rw [if_neg q] at e
    exact .inl ⟨by omega,f,e,by omega⟩
 ·omega
theorem Way.err {R:List zF} {C:List zq} {b:Int} {m:Nat} {s:ASt} {k:Int} (h:Way R C b m s) (hm:m<=s.order.length) (hi:zab R C b s) (hp:YJ C b s C.length=.error k):Zc R C b=.error k:=by
 rcases h with ⟨_,f,e,hf⟩ | ⟨q,_⟩
 ·cases f with
  | zero=>have:=yS hi.nd hi.lt;omega
  | succ f=>
   unfold zia at e;rw [hp] at e;exact e
 ·omega
theorem zf9 {C:List zq} {b:Int} {s u:ASt} {i:Nat} {k:Int} (h:YJ C b s i=.ok u) (hs:zbw C b u i=.error k):∀ n,i < n->YJ C b s n=.error k
 | 0,hn=>by omega
 | n+1,hn=>by
  unfold YJ;by_cases e:i=n
  ·subst e;rw [h];exact hs
  ·rw [zf9 h hs n (by omega)]
theorem zg9 {C:List zq} {b:Int} {s u:ASt} {i:Nat} (h:YJ C b s i=.ok u):YJ C b s (i+1)=zbw C b u i:=by
 rw [YJ,h]
theorem zlw {C:List zq} {b:Int} {u:ASt} {i:Nat} (h:i∈u.order):zbw C b u i=.ok u:=if_pos h
theorem zja {C:List zq} {b:Int} {u:ASt} {i:Nat} {c:zq} (h:i ∉ u.order) (hc:C[i]? = some c) (he:(xJ u.rules b c).2≠0):zbw C b u i=.error (xJ u.rules b c).2:=by
 unfold zbw;rw [if_neg h,hc];exact if_neg he
theorem zlv {C:List zq} {b:Int} {u:ASt} {i:Nat} {c:zq} (h:i ∉ u.order) (hc:C[i]? = some c) (he:(xJ u.rules b c).2=0) (hf:(xJ u.rules b c).1=false):zbw C b u i=.ok u:=by
 unfold zbw;rw [if_neg h,hc];simp only;rw [if_pos he,if_neg (by rw [hf];decide)]
theorem zi9 {C:List zq} {b:Int} {u:ASt} {i:Nat} {c:zq} (h:i ∉ u.order) (hc:C[i]? = some c) (he:(xJ u.rules b c).2=0) (hf:(xJ u.rules b c).1=true):zbw C b u i=.ok ⟨u.order++[i],u.rules++yr c⟩:=by
 unfold zbw;rw [if_neg h,hc];simp only;rw [if_pos he,if_pos hf]
theorem zab.small {R:List zF} {C:List zq} {b:Int} {s:ASt} (h:zab R C b s) (hn:R.length+ZB C<=400):s.rules.length<=400:=by
 rw [h.rules,zq3];have:=zlM (C:=C) h.nd h.lt;omega
theorem zab.few {R:List zF} {C:List zq} {b:Int} {s:ASt} (h:zab R C b s) (hn:R.length+ZB C<=400) (hR:∀ r∈R,r.1.size<=400∧r.2.size<=maxLen) (hC:∀ c∈C,(∀ x∈c.fr,x.size<=400)∧c.sp.size<=maxLen):s.rules.length<=400∧∀ r∈s.rules,r.1.size<=400∧r.2.size<=maxLen:=by
 refine ⟨h.small hn,fun r hr=>?_⟩;rw [h.rules] at hr;rcases zrc.1 hr with q | q
 ·exact hR r q
 ·unfold zY at q
  obtain ⟨i,_,hq⟩:=List.mem_flatMap.1 q;cases hc:C[i]? with
  | none=>rw [hc] at hq;cases hq
  | some c=>
   rw [hc] at hq;simp only [yr,List.mem_map] at hq;obtain ⟨x,hx,rfl⟩:=hq;have:=hC c (zq2 hc);exact ⟨this.1 x hx,this.2⟩
theorem zmb {C:List zq} {k:Nat}:ZB (C.take k)<=ZB C:=by
 have h:C=C.take k++C.drop k:=(zrd k C).symm
 have e:ZB C=ZB (C.take k)+ZB (C.drop k):=by
  conv=>lhs;rw [h]
  unfold ZB;rw [List.map_append,List.sum_append]
 omega
theorem zbX {C:List zq} (h:C.all ZD=true):∀ c∈C,(∀ x∈c.fr,x.size<=400)∧c.sp.size<=maxLen:=by
 intro c hc;have hb:=zcv (zrh.1 h c hc);refine ⟨fun x hx=>?_,?_⟩
 ·have:=(Zn (zaU hb.fr hx)).1;omega
 ·have:=(Zn hb.sp).1;unfold maxLen;omega
theorem zoD {n:Nat} {C:List zq} {b:Int} (h:zeU n C b=0):C.all ZD=true∧n+ZB C<=400:=by
 unfold zeU at h;split at h
 ·split at h
  ·cases h
  ·exact ⟨by assumption,by omega⟩
 ·cases h
theorem zd6 {w:World} {b:Nat} {t:TypeId} {x0 x1:Value} (h:w.heap[b]? = some (.cells #[x0,x1] t (0,0))) (v0 v1:Value) (W:World) (hW:W=((w.setCell ⟨b,0,none⟩ v0).setCell ⟨b,1,none⟩ v1)):W.heap[b]? = some (.cells #[v0,v1] t (0,0))∧Chg (·=b) w W:=by
 subst hW;have h0:(w.setCell ⟨b,0,none⟩ v0).heap[b]? = some (.cells #[v0,x1] t (0,0)):=zt (o:=0) h v0;have h1:((w.setCell ⟨b,0,none⟩ v0).setCell ⟨b,1,none⟩ v1).heap[b]? = some (.cells #[v0,v1] t (0,0)):=zt (o:=1) h0 v1;exact ⟨h1,((Chg.refl (fun k=>k=b) w).setCell (p:=⟨b,0,none⟩) (fun _=>rfl) _).setCell (p:=⟨b,1,none⟩) (fun _=>rfl) _⟩
theorem Tryz.boolInfo:∃ i,Tryz.prog.info? 4=some i∧i.zero=some (.bool false)∧i.size=1∧i.bytes=1:=by
 have h:(Tryz.prog.info? 4).map (fun i=>(i.zero,i.size,i.bytes))=some (some (.bool false),1,1):=by kernel_rfl
 cases hq:Tryz.prog.info? 4 with
 | none=>rw [hq] at h;cases h
 | some i=>
  rw [hq] at h;simp at h;exact ⟨i,rfl,h.1,h.2.1,h.2.2⟩
theorem zir {w:World} {base:Nat} {e:TypeId} {size n m c:Nat} {xs:List Value} (h:w.ownsRow base e size (.slice none n c) m xs):m=0∧c=0:=by
 obtain ⟨_,⟨q,rfl⟩ | ⟨g,cap,cur,q,_⟩⟩:=h
 ·cases q;exact ⟨rfl,rfl⟩
 ·cases q
theorem zhk (l:List Nat) (i:Nat):Yj (l++[i])=Yj l++[.int .i64 (i:Int)]:=by unfold Yj;rw [List.map_append];rfl
theorem xr.start {w2 w4:World} {base ro n:Nat} {R:List zF} {b:Int} {a2:Option Addr} {c2 gi:Nat} (o2:w2.ownsRow base 66 2 (.slice a2 R.length c2) R.length (zD R)) (few:R.length<=400∧∀ r∈R,r.1.size<=400∧r.2.size<=maxLen)
  (k4:Chg (fun _=>False) ((w2.alloc (.map #[] 0)).alloc (.cells #[.slice a2 R.length c2,.int .i64 b,.map (some w2.heap.size)] 192)) w4) (hro:w2.heap[ro]? = some (.cells #[.slice none 0 0,.slice none 0 0] 165 (0,0))) (hb:base<=ro∧base<=w2.heap.size)
  (hg:w4.ownsRow base 4 1 (.slice (some ⟨gi,0,none⟩) n n) n (madeCells #[Value.bool false] n).toList):xr w4 base (w2.heap.size+1) w2.heap.size gi ro n b 0 R [] [] a2 c2 (.slice none 0 0):=by
 have kk:=(zi (fun _=>False) w2 (.map #[] 0)).trans ((zi (fun _=>False) (w2.alloc (.map #[] 0)) (.cells #[.slice a2 R.length c2,.int .i64 b,.map (some w2.heap.size)] 192)).trans k4);have hl:=zkE (b:=b) (Xm o2 (fun r hr=>by have:=few.2 r hr;unfold maxLen at *;omega)) (fun k hk=>(o2.lt k hk).2) (.inl ⟨few.1,fun r hr=>(few.2 r hr).1⟩);obtain ⟨fS,nS,C,q1,q2,q3,_⟩:=hl;rw [za6] at hg;obtain ⟨g1,g2⟩:=zkh hg;exact ⟨⟨fS,nS,C,q1.chg k4 (fun e=>e) (fun e=>e) (fun _ _ e=>e) (fun _ _ e=>e),q2,fun k hk=>by rcases q3 k hk with rfl | rfl <;> omega⟩,zn o2 kk (fun _ _ e=>e),World.ownsRow_nil _ _ _ _,g2,kk.obj (fun e=>e) hro,⟨by omega,by omega,g1,hb.1⟩,few⟩
set_option maxHeartbeats 16000000 in
set_option maxRecDepth 100000 in
theorem zlL (w:World) (ra:Option Addr) (R:List zF) (rc:Nat) (v:Value) (P:List (zq × Value)) (b:Int) (G:Nat->Prop) (hR:zX w (.slice ra R.length rc) G R) (hnil:ra=none->R.length=0∧rc=0) (hRl:R.length<=140737488355328) (hf:R.length<=400->∀ r∈R,r.1.size<=400) (hv:ym w v G P) (hP:P.length<=1000) (hg:∀ k,G k->k < w.heap.size):
  Calls Tryz.prog 90 #[.slice ra R.length rc,v,.int .i64 b] w (zjI w R (zk P) b):=by
 have HV:=ze hv;have HG:=ze hg;obtain ⟨la,cap,rfl,_,_⟩:=hv;have k0:=zi (fun _=>False) w (.cells #[.slice none 0 0,.slice none 0 0] 165);have o0:=zh w (.cells #[.slice none 0 0,.slice none 0 0] 165);have RF:=zik (w.alloc (.cells #[.slice none 0 0,.slice none 0 0] 165)) ra R rc _ P b G (HV.out.chg k0 (fun _ _ e=>e)) hRl hP;unfold zm6 at RF;have CG:=ze (fun k p (h:P[k]? = some p)=>Zy h);have CL:=ze (zQ P);have BAD:=ze (@zfM R (zk P) b);have GO:=ze (@zhH R (zk P) b);have ROK:=ze (@zoD R.length (zk P) b);unfold zjI;generalize hrf:zeU R.length (zk P) b=rf at *;clear hrf;generalize zk P=C at *;have RF:=ze RF;have K0:=ze k0;have O0:=ze o0;clear k0 o0 hg;go_enter Tryz.func90,Tryz.ntmps90;go_wp2_with fail;generalize w.alloc (.cells #[.slice none 0 0,.slice none 0 0] 165)=w0 at *;(with_reducible refine RF.out.mono ?_);rintro e w1 ⟨rfl,k1⟩;have K1:=ze (K0.out.trans k1);have O1:=ze (k1.obj (fun e=>e) O0.out);have hs1:w.heap.size < w1.heap.size:=zr O1.out;clear RF k1 K0 O0;by_cases hre:rf=0
 rotate_left
 ·have g:(rf != 0)=true:=by rw [zre];exact hre
  have AB:=ze (show rf≠0∧Zc R C b=.error rf from ⟨hre,BAD.out hre⟩);have c0:=zf (o:=0) O1.out rfl;have c1:=zf (o:=1) O1.out rfl;have f0:=zm (o:=0) O1.out;have f1:=zm (o:=1) O1.out;clear hre HV CG CL BAD GO ROK hR hf hnil;go_wp2;obtain ⟨W,hW⟩:∃ W,W=((w1.setCell ⟨w.heap.size,0,none⟩ (.slice none 0 0)).setCell ⟨w.heap.size,1,none⟩ (.slice none 0 0)):=⟨_,rfl⟩;obtain ⟨ob,k4⟩:=zd6 O1.out (.slice none 0 0) (.slice none 0 0) W hW;rw [<- hW];clear hW;have z0:W.cell? ⟨w.heap.size,0,none⟩=some (.slice none 0 0):=zf ob rfl;have z1:W.cell? ⟨w.heap.size,1,none⟩=some (.slice none 0 0):=zf ob rfl;refine bodyPost_ret (v:=.tuple #[.agg #[.slice none 0 0,.slice none 0 0],.int .i64 rf]) (by simp [results,Tryz.results90,go_sem,z0,z1]) rfl ?_;exact ⟨K1.out.next k4 (fun k hk e=>by omega),.inl ⟨rf,AB.out.1,AB.out.2,rfl⟩⟩
 subst hre;obtain ⟨hall,hneed⟩:=ROK.out rfl;have CW:=ze (zbX hall);have ALL:=ze (fun c hc=>Xx (zrh.1 hall c hc));have AGO:=ze (GO.out rfl)
 have RFEW:=ze (show R.length<=400∧∀ r∈R,r.1.size<=400∧r.2.size<=maxLen from ⟨by omega,fun r hr=>⟨hf (by omega) r hr,by
  obtain ⟨_,_,_,_,q⟩:=hR;obtain ⟨j,hj⟩:=List.mem_iff_getElem?.1 hr;obtain ⟨_,_,_,_,_,_,_,q2⟩:=q j r hj;exact q2⟩⟩)
 have CLN:=ze (zfn w1 ra R rc G (hR.chg K1.out (fun _ _ e=>e)) hnil (by omega));have FEW:=ze (fun s (h:zab R C b s)=>h.few hneed RFEW.out.2 CW.out);have NEED:=ze (show ZB C<=400 by omega);have hmm:=@run_makeMap Tryz.prog;clear hall ROK GO BAD hR hf hnil hRl;go_wp2_with fail;(with_reducible refine CLN.out.mono ?_);rintro e w2 ⟨v2,rfl,o2,k2⟩;obtain ⟨a2,c2,rfl⟩:=zl o2;have K2:=ze (K1.out.trans k2);have O2:=ze (k2.obj (fun e=>e) O1.out);have OW2:=ze o2;have hs2:=k2.size;have kk:=(zi (fun _=>False) w2 (.map #[] 0)).trans (zi (fun _=>False) (w2.alloc (.map #[] 0)) (.cells #[.slice a2 R.length c2,.int .i64 b,.map (some w2.heap.size)] 192));have K3:=ze (K2.out.trans kk);have hs3:=kk.size;have START:=ze (fun (w4:World) (gi:Nat) (k4:Chg (fun _=>False) ((w2.alloc (.map #[] 0)).alloc (.cells #[.slice a2 R.length c2,.int .i64 b,.map (some w2.heap.size)] 192)) w4) h=>@xr.start w2 w4 w.heap.size w.heap.size P.length R b a2 c2 gi (ZP o2 (by omega)) RFEW.out k4 O2.out ⟨zrj _,by omega⟩ h);obtain ⟨bi,hbi,hbz,hb1,hb2⟩:=Tryz.boolInfo;clear CLN o2 k2 kk O1 K1 OW2;go_wp2_with (at_make;refine wpList_make_full _ rfl (.tmp 31) (.tmp 31) 145 rfl w.heap.size 4 bi (.bool false) 1 Tryz.underlying145 hbi hbz hb1 .i64 .i64 (P.length:Int) (P.length:Int) P.length rfl rfl rfl rfl ?b2 ?b3 ?b4 ?next)
 case b2=>rw [hb2];omega
 case b3=>unfold maxLen;omega
 case b4=>omega
 case next=>
  intro w4 own4 g4;have k4:=(Chg.of_grown g4).mono (T:=fun _=>False) (fun _ _ e=>by cases e);have S4:=ze (START.out w4 _ k4 own4);have K4:=ze (K3.out.trans k4);have hms:w.heap.size<=w2.heap.size:=by omega
  clear own4 g4 k4 START K3 K2 O2;generalize w2.heap.size+1+1=gi at *;generalize w2.heap.size+1=lk at *;generalize w2.heap.size=mS at *;go_wp2_with fail;go_loopw [12,11] (fun bv ov wr=>∃ (m:Nat) (s:ASt) (N:Nat) (ra':Option Addr) (rc':Nat) (oa:Option Addr) (oc:Nat),m<=P.length+1∧N<=m*400∧bv=.int .i64 ((m:Int) - 1)∧ov=.slice oa s.order.length oc∧Hid (xr wr w.heap.size lk mS gi w.heap.size P.length b N s.rules s.order s.order ra' rc' (.slice oa s.order.length oc)∧Chg (fun _=>False) w wr∧zab R C b s∧Way R C b m s)) (fun bv _ _=>P.length+1 - (intOf bv+1).toNat)
  case atStart=>exact ⟨0,⟨[],R⟩,0,a2,c2,none,0,by omega,by omega,rfl,rfl,ze ⟨S4.out,K4.out,zab.start R C b,.inl ⟨Nat.zero_le _,C.length+1,AGO.out,by simp⟩⟩⟩
  case round=>
   obtain ⟨m,s,N,ra1,rc1,oa1,oc1,hm,hN,rfl,rfl,HI⟩:=hrel;obtain ⟨hra,hkc,hinv,hway⟩:=HI.out;have SR:=ze hra;have KC:=ze hkc;have INV:=ze hinv;have WAY:=ze hway;have hsl:s.order.length<=P.length:=by have:=yS hinv.nd hinv.lt;rw [CL.out] at this;exact this
   clear HI hra hkc hinv hway;by_cases hgo:m<=s.order.length
   rotate_left
   ·have g0:(((m:Int) - 1) != (s.order.length:Int))=false:=by
     rcases WAY.out with q | q
     ·exact absurd q.1 hgo
     ·rw [zrf];omega
    have AE:=ze (show Zc R C b=.ok s from by
     rcases WAY.out with q | q
     ·exact absurd q.1 hgo
     ·exact q.2)
    have c0:=zf (o:=0) SR.out.res rfl;have c1:=zf (o:=1) SR.out.res rfl;have f0:=zm (o:=0) SR.out.res;have f1:=zm (o:=1) SR.out.res;have d0:=zf (o:=0) SR.out.lookObj rfl;clear WAY hgo;go_wp2;obtain ⟨W,hW⟩:∃ W,W=((wr.setCell ⟨w.heap.size,0,none⟩ (.slice oa1 s.order.length oc1)).setCell ⟨w.heap.size,1,none⟩ (.slice ra1 s.rules.length rc1)):=⟨_,rfl⟩;obtain ⟨ob,k4⟩:=zd6 SR.out.res (.slice oa1 s.order.length oc1) (.slice ra1 s.rules.length rc1) W hW;rw [<- hW];clear hW;have z0:W.cell? ⟨w.heap.size,0,none⟩=some (.slice oa1 s.order.length oc1):=zf ob rfl;have z1:W.cell? ⟨w.heap.size,1,none⟩=some (.slice ra1 s.rules.length rc1):=zf ob rfl;refine bodyPost_ret (v:=.tuple #[.agg #[.slice oa1 s.order.length oc1,.slice ra1 s.rules.length rc1],.int .i64 0]) (by simp [results,Tryz.results90,go_sem,z0,z1]) rfl ?_;exact ⟨KC.out.next k4 (fun k hk e=>by omega),.inr ⟨s,oa1,ra1,oc1,rc1,AE.out,rfl,zn SR.out.ord k4 (fun k hk e=>Yo SR.out.ord SR.out.res (by decide) (e ▸ hk)),zn SR.out.rul k4 (fun k hk e=>Yo SR.out.rul SR.out.res (by decide) (e ▸ hk))⟩⟩
   have g0:(((m:Int) - 1) != (s.order.length:Int))=true:=by rw [zre];omega
   go_wp2_with fail;go_loopw [11,41] (fun ov iv wq=>∃ (k:Nat) (u:ASt) (N':Nat) (ra':Option Addr) (rc':Nat) (oa:Option Addr) (oc:Nat),k<=P.length∧iv=.int .i64 k∧ov=.slice oa u.order.length oc∧Hid (N'<=N+ZB (C.take k)∧xr wq w.heap.size lk mS gi w.heap.size P.length b N' u.rules u.order u.order ra' rc' (.slice oa u.order.length oc)∧Chg (fun _=>False) w wq∧zab R C b u∧YJ C b s k=.ok u)) (fun _ iv _=>P.length - (intOf iv).toNat)
   case atStart=>exact ⟨0,s,N,ra1,rc1,oa1,oc1,by omega,rfl,rfl,ze ⟨by simp [ZB],SR.out,KC.out,INV.out,rfl⟩⟩
   case round=>
    obtain ⟨k,u,N',ra2,rc2,oa2,oc2,hk,rfl,rfl,HJ⟩:=hrel;obtain ⟨hn',hru,hkq,hui,hpa⟩:=HJ.out;have SU:=ze hru;have KQ:=ze hkq;have UI:=ze hui;have PA:=ze hpa;have HN':=ze hn';clear HJ hru hkq hui hpa hn' SR KC;by_cases hlt:k < P.length
    rotate_left
    ·obtain rfl:k=P.length:=by omega
     have WN:=ze (WAY.out.next hgo INV.out (by rw [CL.out];exact PA.out));have hN2:N'<=N+400:=by have:=HN'.out;have:=zmb (C:=C) (k:=P.length);have:=NEED.out;omega
     go_wp2;go_roundw
     case rel=>exact ⟨s.order.length+1,u,N',ra2,rc2,oa2,oc2,by omega,by omega,by rw [show (((s.order.length+1:Nat):Int) - 1)=(s.order.length:Int) by omega],rfl,ze ⟨SU.out,KQ.out,UI.out,WN.out⟩⟩
     case measure=>simp [intOf];omega
    obtain ⟨⟨c,sv⟩,hp⟩:∃ p,P[k]? = some p:=⟨_,zq0 hlt⟩;obtain ⟨_,_,e1,_,hcl⟩:=HV.out;cases e1;obtain ⟨g,o,sa,sc,rfl,hgg,hsv,c0,c1,c2,c3,c4,c5,c6,hca⟩:=hcl k _ hp;simp only at hsv;subst hsv;have HP:=ze (CG.out _ _ hp);clear hcl hp;simp only at c0 c1 c2 c3 c4 c5 c6 hca HP;have CELLS:=fun w5 (q:Chg (fun _=>False) w w5)=>And.intro (zj q (fun e=>e) c0) (And.intro (zj q (fun e=>e) c1) (And.intro (zj q (fun e=>e) c2) (And.intro (zj q (fun e=>e) c3) (And.intro (zj q (fun e=>e) c4) (And.intro (zj q (fun e=>e) c5) (zj q (fun e=>e) c6))))));clear c0 c1 c2 c3 c4 c5 c6;have PE:=ze (fun x (h:zbw C b u k=.error x)=>zf9 PA.out h P.length hlt);have PS:=ze (zg9 PA.out);have NS:=ze (za2 HP.out);have i0:=SU.out.inr.cell (Xu hlt);by_cases hin:k∈u.order
    ·have e0:decide (k∈u.order)=true:=zqY hin
     rw [e0] at i0;have PN:=ze (show YJ C b s (k+1)=.ok u by rw [PS.out,zlw hin]);clear e0 hin CELLS hca;go_wp2;go_roundw
     case rel=>exact ⟨k+1,u,N',ra2,rc2,oa2,oc2,by omega,by go_num,rfl,ze ⟨by have:=HN'.out;rw [NS.out];omega,SU.out,KQ.out,UI.out,PN.out⟩⟩
     case measure=>simp [intOf];omega
    have e0:decide (k∈u.order)=false:=zqZ hin;rw [e0] at i0;have SERR:=ze (zja (b:=b) hin HP.out);have SNO:=ze (zlv (b:=b) hin HP.out);have SYES:=ze (zi9 (b:=b) hin HP.out);have hcf:=(ALL.out c (zq2 HP.out)).2;have hn3:=HN'.out;have hn4:=zmb (C:=C) (k:=k);have hn5:=NEED.out;have BK:=ziy wr lk mS ra2 u.rules rc2 b _ N' _ c sa sc G SU.out.lookAt (hca.chg KQ.out (fun _ _ e=>e)) (fun j hj e=>by have:=HG.out j hj;omega) (by omega);have CR:=ze (fun w5 (q:Chg (fun _=>False) w w5)=>zfH w5 c sa sc G (hca.chg q (fun _ _ e=>e)) (by omega));have CRS:=ze (show (yr c).length=c.fr.length from zaE c);unfold zgx at BK;generalize xJ u.rules b c=res at *;generalize hcr:yr c=M at *;obtain ⟨r1,r2⟩:=res;obtain ⟨kind,sg,sp,fr,f,t,num⟩:=c;unfold xI at BK CR;simp only at CELLS BK CR SERR SNO SYES NS hcf CRS;have BK:=ze BK;obtain ⟨c0,c1,c2,c3,c4,c5,c6⟩:=CELLS wr KQ.out;have CELLS:=ze CELLS;clear e0 hin hca hn3 hn4 hn5 HP hcr;go_wp2_with fail;clear c0 c1 c2 c3 c4 c5 c6 i0;(with_reducible refine BK.out.mono ?_);rintro e w3 ⟨B3,hl3,k3,hb3,rfl⟩
    have S3:=ze (SU.out.back hl3 k3 (fun j hj=>by
     rcases hb3 j hj with q | q
     ·exact q.1
     ·have:=KQ.out.size;omega))
    have K3:=ze (KQ.out.next k3 (fun j hj e=>by omega));clear BK hl3 k3 hb3 SU KQ;by_cases he:r2=0
    rotate_left
    ·have g1:(r2 != 0)=true:=by rw [zre];exact he
     have AE:=ze (show r2≠0∧Zc R C b=.error r2 from ⟨he,WAY.out.err hgo INV.out (by rw [CL.out];exact PE.out _ (SERR.out he))⟩);have c0:=zf (o:=0) S3.out.res rfl;have c1:=zf (o:=1) S3.out.res rfl;have f0:=zm (o:=0) S3.out.res;have f1:=zm (o:=1) S3.out.res;clear he SERR SNO SYES PE PS CELLS CR;go_wp2;obtain ⟨W,hW⟩:∃ W,W=((w3.setCell ⟨w.heap.size,0,none⟩ (.slice none 0 0)).setCell ⟨w.heap.size,1,none⟩ (.slice none 0 0)):=⟨_,rfl⟩;obtain ⟨ob,k4⟩:=zd6 S3.out.res (.slice none 0 0) (.slice none 0 0) W hW;rw [<- hW];clear hW;have z0:W.cell? ⟨w.heap.size,0,none⟩=some (.slice none 0 0):=zf ob rfl;have z1:W.cell? ⟨w.heap.size,1,none⟩=some (.slice none 0 0):=zf ob rfl;refine bodyPost_ret (v:=.tuple #[.agg #[.slice none 0 0,.slice none 0 0],.int .i64 r2]) (by simp [results,Tryz.results90,go_sem,z0,z1]) rfl ?_;exact ⟨K3.out.next k4 (fun k hk e=>by omega),.inl ⟨r2,AE.out.1,AE.out.2,rfl⟩⟩
    subst he;have hul:u.order.length<=P.length:=by have:=yS UI.out.nd UI.out.lt;rw [CL.out] at this;exact this
    cases r1 with
    | false=>
     have PN:=ze (show YJ C b s (k+1)=.ok u by rw [PS.out,SNO.out rfl rfl]);clear SERR SNO SYES PE PS CELLS CR;go_wp2;go_roundw
     case rel=>exact ⟨k+1,u,N'+fr.length,ra2,rc2,oa2,oc2,by omega,by go_num,rfl,ze ⟨by have:=HN'.out;rw [NS.out];omega,S3.out,K3.out,UI.out,PN.out⟩⟩
     case measure=>simp [intOf];omega
    | true=>
     have PN:=ze (show YJ C b s (k+1)=.ok ⟨u.order++[k],u.rules++M⟩ by rw [PS.out,SYES.out rfl rfl]);have UN:=ze (UI.out.step (SYES.out rfl rfl)).1;have MF:=ze (FEW.out _ UN.out);have hmf:u.rules.length+M.length<=400:=by have:=MF.out.1;simpa using this
     have i1:=S3.out.inr.cell (Xu hlt);have f1:=S3.out.inr.frozen k;have S4:=ze (S3.out.setIn hlt);have K4:=ze (K3.out.next (zG w3 gi k (.bool true)) (fun j hj e=>by have:=S3.out.lo.2.2.1;omega));clear SERR SNO SYES PE PS K3 S3;have obn:=zh (w3.setCell ⟨gi,k,none⟩ (.bool true)) (.cells #[.int .i64 (k:Int)] 3);have hsz3:(w3.setCell ⟨gi,k,none⟩ (.bool true)).heap.size=w3.heap.size:=by simp [World.setCell]
     rw [hsz3] at obn;have OBN:=ze obn;clear obn;go_wp2_with (at_builtin;refine Zd rfl (.tmp 65) (.tmp 67) 36 rfl 3 1 8 Tryz.underlying36 Tryz.elemInt' w.heap.size _ _ _ rfl (S4.out.ord.alloc _) _ [.int .i64 (k:Int)] 3 (0,0) rfl OBN.out rfl ?a1 ?a2 ?a3 ?a4 ?a5)
     case a1=>intro y hy;simp at hy;subst hy;rfl
     case a2=>omega
     case a3=>unfold maxLen;omega
     case a4=>rw [zq8];have:=K4.out.size;omega
     intro v5 w5 o5 g5;obtain ⟨a5,c5,rfl⟩:=zl o5;have k5:=(zi (fun j=>(Value.slice oa2 u.order.length oc2).ownBlock=some j) (w3.setCell ⟨gi,k,none⟩ (.bool true)) (.cells #[.int .i64 (k:Int)] 3)).grown g5 (fun j hj _=>hj);have S5:=ze (S4.out.push (i:=k) (by rw [zhk,zq3];exact o5) k5 (fun j hj=>hj));have K5:=ze (K4.out.next k5 (fun j hj e=>by have:=(S4.out.ord.lt j e).1;omega));obtain ⟨d0,d1,d2,d3,d4,d5,d6⟩:=CELLS.out _ K5.out;have x0:=zf (o:=0) S5.out.lookObj rfl;clear i1 f1 S4 K4 o5 g5 k5;go_wp2_with fail;refine Zk (N:=89) [.rd [0,1,2,3,4,5,6,7,8],.ef 9,.ef 10,.ef 11,.ef 12,.ef 13] 13 (fun w'=>w'.cell? ⟨lk,0,none⟩=some (.slice ra2 u.rules.length rc2)∧w'.cell? ⟨g,o+k*7,none⟩=some (.int .i64 kind)∧w'.cell? ⟨g,o+k*7+1,none⟩=some (.int .u16 (sg:Int))∧w'.cell? ⟨g,o+k*7+2,none⟩=some (.string sp)∧w'.cell? ⟨g,o+k*7+3,none⟩=some (.slice sa fr.length sc)∧w'.cell? ⟨g,o+k*7+4,none⟩=some (.int .i64 f)∧w'.cell? ⟨g,o+k*7+5,none⟩=some (.int .i64 t)∧w'.cell? ⟨g,o+k*7+6,none⟩=some (.int .i64 num)) (by kernel_rfl) (by kernel_rfl) (by kernel_rfl) (by kernel_rfl) (by kernel_rfl) (Nat.le_of_ble_eq_true rfl) ⟨x0,d0,d1,d2,d3,d4,d5,d6⟩ ?_;refine xu (A:=?A1) ?h1 ?h2
     case h1=>
      rintro w' ⟨y0,z0,z1,z2,z3,z4,z5,z6⟩ K hK;simp only [zM,zqT,zqU,zqV,zqW,zqX]
      repeat still_step
      refine wpStill_nil ?_;exact hK
     clear x0 d0 d1 d2 d3 d4 d5 d6;have S6:=ze (S5.out.chg0 (zw (fun _=>False) w5));have K6:=ze (K5.out.drew);clear S5 K5;generalize w5.drew=w6 at *;have CR6:=ze (CR.out w6 K6.out);refine zJ rfl ?_;go_wp2_with fail;(with_reducible refine CR6.out.mono ?_);rintro e w7 ⟨v7,rfl,o7,k7⟩;obtain ⟨a7,c7,rfl⟩:=zl o7;have S7:=ze (S6.out.chg0 k7);have K7:=ze (K6.out.trans k7);have O7:=ze o7;obtain ⟨d0,d1,d2,d3,d4,d5,d6⟩:=CELLS.out _ K7.out;have x0:=zf (o:=0) S7.out.lookObj rfl;have hs7:=K7.out.size;clear o7 k7 S6 K6 CR6 CR;go_wp2_with fail;refine ⟨.inr ⟨x0,d0,d1,d2,d3,d4,d5,d6⟩,?_⟩;clear x0 d0 d1 d2 d3 d4 d5 d6;refine zJ rfl ?_;refine zV rfl (.tmp 73) (.tmp 78) 22 rfl 66 2 32 Tryz.underlying22 Tryz.elemRule w.heap.size _ u.rules.length (zD u.rules) rfl S7.out.rul a7 M.length c7 (zD M) rfl ?e1 ?e2 ?e3 ?e4 ?e5 ?e6 ?e7 ?enx
     case e1=>exact yt M
     case e2=>exact zaV (Xm O7.out (fun r hr=>by have:=MF.out.2 r (List.mem_append_right _ hr);unfold maxLen at *;omega))
     case e3=>intro e;subst e;exact zir O7.out
     case e4=>exact YO M
     case e5=>omega
     case e6=>unfold maxLen;omega
     case e7=>exact hs7
     intro v8 w8 o8 g8;obtain ⟨a8,c8,rfl⟩:=zl o8;have k8:Chg (fun j=>(Value.slice ra2 u.rules.length rc2).ownBlock=some j) w7 w8:=Chg.of_grown g8;have K8:=ze (K7.out.next k8 (fun j hj e=>by have:=(S7.out.rul.lt j e).1;omega));have s9:=S7.out.grow (M:=M) (by rw [zq3,yQ];exact o8) k8 (fun j hj=>hj) MF.out;rw [zq3] at s9;have S9:=ze s9;have K9:=ze (K8.out.next (zG w8 lk 0 (.slice a8 (u.rules.length+M.length) c8)) (fun j hj e=>by have:=S7.out.lo.1;omega));have ob8:=k8.obj (fun q=>Yo S7.out.rul S7.out.lookObj (by decide) q) S7.out.lookObj;obtain ⟨d0,d1,d2,d3,d4,d5,d6⟩:=CELLS.out _ K8.out;have x0:=zf (o:=0) ob8 rfl;have y0:=zm (o:=0) ob8;clear o8 g8 k8 s9 ob8 S7 K7 K8 O7 CELLS;go_wp2_with fail;refine ⟨.inr ⟨x0,d0,d1,d2,d3,d4,d5,d6⟩,?_⟩;refine zJ rfl ?_;go_wp2_with fail;refine ⟨.inr ⟨x0,d0,d1,d2,d3,d4,d5,d6⟩,?_⟩;refine zJ rfl ?_;go_wp2_with fail;refine ⟨.inr ⟨x0,d0,d1,d2,d3,d4,d5,d6⟩,?_⟩;clear d0 d1 d2 d3 d4 d5 d6;refine zJ rfl ?_;refine ZR rfl 22 (.tmp 81) (.tmp 79) rfl lk 0 rfl (.slice a8 (u.rules.length+M.length) c8) rfl rfl rfl Tryz.sizeRulesS _ x0 y0 ?_;intro w9 hw9;rw [<- hw9] at S9 K9;clear hw9 x0 y0;refine ⟨.inl rfl,yA ?_⟩;have hN9:=HN'.out;go_wp2;go_roundw
     case rel=>exact ⟨k+1,⟨u.order++[k],u.rules++M⟩,N'+fr.length,a8,c8,a5,c5,by omega,by go_num,by simp,ze ⟨by rw [NS.out];omega,by
      show xr w9 w.heap.size lk mS gi w.heap.size P.length b (N'+fr.length) (u.rules++M) (u.order++[k]) (u.order++[k]) a8 c8 (.slice a5 (u.order++[k]).length c5);rw [zq3];exact S9.out,K9.out,UN.out,PN.out⟩⟩
     case measure=>simp [intOf];omega
def zdf (p:zq × Value):List Value:=[.int .i64 p.1.kind,.int .u16 (p.1.sg:Int),.string p.1.sp,p.2,.int .i64 p.1.f,.int .i64 p.1.t,.int .i64 p.1.n]
def zbP (P:List (zq × Value)):List Value:=P.flatMap zdf
theorem zef:∀ {P:List (zq × Value)} {j:Nat} {p:zq × Value},P[j]? = some p->∀ q,q < 7->(zbP P)[j*7+q]? = (zdf p)[q]?
 | p :: P,0,r,h,q,hq=>by
  simp at h;subst h;have:zbP (p :: P)=zdf p++zbP P:=rfl;rw [this,List.getElem?_append_left (by simp [zdf];omega)];simp
 | p :: P,j+1,r,h,q,hq=>by
  have:zbP (p :: P)=zdf p++zbP P:=rfl;rw [this,List.getElem?_append_right (by simp [zdf];omega)];have:=zef (P:=P) (j:=j) (by simpa using h) q hq;rw [<- this]
  congr 1
  simp [zdf];omega
def zqp (w:World) (G:Nat->Prop) (P:List (zq × Value)):Prop:=∀ p∈P,∃ sa sc,p.2=.slice sa p.1.fr.length sc∧YI w (.slice sa p.1.fr.length sc) G p.1
theorem ziM {w:World} {base:Nat} {v:Value} {G:Nat->Prop} {P:List (zq × Value)} (h:w.ownsRow base 64 7 v P.length (zbP P)) (hs:zqp w G P):ym w v (fun k=>G k∨v.ownBlock=some k) P:=by
 have h0:=h;obtain ⟨h1,⟨rfl,h2⟩ | ⟨g,cap,cur,rfl,hg,hh,q1,q2,q3,q4⟩⟩:=h
 ·refine ⟨none,0,by rw [h2],by rw [h2];unfold maxLen;omega,fun j x hj=>?_⟩
  have:j < P.length:=(zq1.1 hj).1;omega
 ·refine ⟨_,cap,rfl,by omega,fun j p hj=>?_⟩
  have hjl:=(zq1.1 hj).1;obtain ⟨sa,sc,e,hc⟩:=hs p (zq2 hj)
  have key:∀ q,q < 7->w.cell? ⟨g,0+j*7+q,none⟩=(zdf p)[q]?:=fun q hq=>by
   rw [Nat.zero_add,h0.cellAt (j:=j*7+q) (by omega)];exact zef hj q hq
  refine ⟨g,0,sa,sc,rfl,.inr rfl,e,key 0 (by decide),key 1 (by decide),key 2 (by decide),?_,key 4 (by decide),key 5 (by decide),key 6 (by decide),hc.up (fun _ q=>.inl q)⟩;rw [<- e];exact key 3 (by decide)
theorem zis {w:World} {e:TypeId} {size n:Nat} {xs:List Value} (hl:xs.length=n*size) (hn:n<=maxLen):(w.alloc (.cells xs.toArray e)).ownsRow w.heap.size e size (.slice (some ⟨w.heap.size,0,none⟩) n n) n xs:=
 ⟨hl,.inr ⟨w.heap.size,n,xs.toArray,rfl,zrj _,zh _ _,zrj _,hn,by simpa using hl,by simp [<- hl]⟩⟩
theorem Tryz.elemCert:Zt Tryz.prog 64 7 80:=Zj (z:=.agg #[.int .i64 0,.int .u16 0,.string ⟨#[]⟩,.slice none 0 0,.int .i64 0,.int .i64 0,.int .i64 0]) (by kernel_rfl) rfl (by decide)
structure Yb (w:World) (ra:Option Addr) (R:List zF) (rc:Nat) (v:Value) (P:List (zq × Value)) (G:Nat->Prop):Prop where
 rules:zX w (.slice ra R.length rc) G R
 nil:ra=none->R.length=0∧rc=0
 many:R.length<=140737488355328
 size:R.length<=400->∀ r∈R,r.1.size<=400
 certs:ym w v G P
 few:P.length<=1000
 low:∀ k,G k->k < w.heap.size
theorem Yb.chg {w w':World} {ra:Option Addr} {R:List zF} {rc:Nat} {v:Value} {P:List (zq × Value)} {G:Nat->Prop} (h:Yb w ra R rc v P G) (hc:Chg (fun _=>False) w w'):Yb w' ra R rc v P G:=
 ⟨h.rules.chg hc (fun _ _ e=>e),h.nil,h.many,h.size,h.certs.chg hc (fun _ _ e=>e),h.few,fun k hk=>zq7 (h.low k hk) hc.size⟩
def zhL (w:World) (s:ASt) (e:Ending) (w':World):Prop:=
 ∃ (oa va:Option Addr) (oc vc:Nat),e=.returned (.tuple #[.agg #[.slice oa s.order.length oc,.slice va s.rules.length vc],.int .i64 0]) ∧
   w'.ownsRow w.heap.size 3 1 (.slice oa s.order.length oc) s.order.length (Yj s.order)∧w'.ownsRow w.heap.size 66 2 (.slice va s.rules.length vc) s.rules.length (zD s.rules)∧Chg (fun _=>False) w w'
def zoR (w:World) (k:Int) (e:Ending) (w':World):Prop:=k≠0∧e=.returned (.tuple #[.agg #[.slice none 0 0,.slice none 0 0],.int .i64 k])∧Chg (fun _=>False) w w'
section
variable {w:World} {ra:Option Addr} {R:List zF} {rc:Nat} {v:Value} {P:List (zq × Value)} {G:Nat->Prop}
theorem zoA (h:Yb w ra R rc v P G) {b:Int} {s:ASt} (hs:Zc R (zk P) b=.ok s):Calls Tryz.prog 90 #[.slice ra R.length rc,v,.int .i64 b] w (zhL w s):=
 (zlL w ra R rc v P b G h.rules h.nil h.many h.size h.certs h.few h.low).mono fun e w' ⟨hc,hr⟩=>by
  rcases hr with ⟨k,_,hk,_⟩ | ⟨t,oa,va,oc,vc,ht,he,h1,h2⟩
  ·rw [hs] at hk;cases hk
  ·rw [hs] at ht;cases ht
   exact ⟨oa,va,oc,vc,he,h1,h2,hc⟩
theorem zlK (h:Yb w ra R rc v P G) {b k:Int} (hs:Zc R (zk P) b=.error k):Calls Tryz.prog 90 #[.slice ra R.length rc,v,.int .i64 b] w (zoR w k):=
 (zlL w ra R rc v P b G h.rules h.nil h.many h.size h.certs h.few h.low).mono fun e w' ⟨hc,hr⟩=>by
  rcases hr with ⟨j,hj,hk,he⟩ | ⟨t,oa,va,oc,vc,ht,he,h1,h2⟩
  ·rw [hs] at hk;cases hk
   exact ⟨hj,he,hc⟩
  ·rw [hs] at ht;cases ht
end
theorem zhL.few {R:List zF} {C:List zq} {b:Int} {s:ASt} (h:Zc R C b=.ok s) (hR:∀ r∈R,r.1.size<=400∧r.2.size<=maxLen):s.rules.length<=400∧∀ r∈s.rules,r.1.size<=400∧r.2.size<=maxLen:=by
 obtain ⟨h1,h2,_⟩:=zcC h;exact (YH h).1.inv.few h2 hR (zbX h1)
end Go.Proofs.YthdfplafihmejaaGreat
