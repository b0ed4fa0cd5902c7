/-
  Package pack: Out: numbers, words, sets, what was written; in plain Lean, and walked. Package pack: Set, Done; package cert: Encode. Package cert: Encode.
-/
import Derived.Test.YtcilaocknhphnaaGreatZgRBase
import Derived.Test.YtcilaocknhphnaaGreatZgCSet
import Derived.Test.YtcilaocknhphnaaGreatZgCCheck
namespace Go.Proofs.YtcilaocknhphnaaGreat
open Go.RowKit Go.Maps
def zW (n:Nat):List UInt8:=if n < 128 then [UInt8.ofNat n] else UInt8.ofNat (n % 128+128) :: zW (n / 128)
termination_by n
decreasing_by omega
theorem ZQ {n:Nat} (h:n < 128):zW n=[UInt8.ofNat n]:=by rw [zW,if_pos h]
theorem Yh {n:Nat} (h:128<=n):zW n=UInt8.ofNat (n % 128+128) :: zW (n / 128):=by rw [zW,if_neg (by omega)]
theorem Zl:∀ (k n:Nat),n < 128 ^ (k+1)->(zW n).length<=k+1
 | 0,n,h=>by rw [ZQ (by simpa using h)];simp
 | k+1,n,h=>by
  rcases Nat.lt_or_ge n 128 with q | q
  ·rw [ZQ q];simp
  ·rw [Yh q,List.length_cons]
   have:=Zl k (n / 128) (by rw [Nat.div_lt_iff_lt_mul (by omega)];rwa [Nat.pow_succ] at h);omega
def ZX (s:ByteArray):List UInt8:=UInt8.ofNat (zI s.data.toList) :: s.data.toList
def Zh (l:List ByteArray):List UInt8:=l.flatMap ZX
def xK (l:List ByteArray):List UInt8:=UInt8.ofNat l.length :: Zh l
theorem YY {s:ByteArray} (h:ZZ s.data.toList=true):s.data.toList.length=2*zI s.data.toList∧zI s.data.toList<=8:=by
 obtain ⟨h1,_,h3,_⟩:=(Zr _).1 h;unfold zI at *;exact ⟨by omega,h3⟩
def Zk (c:zF):List UInt8:=zW c.kind.toNat++(zW c.sg++(ZX c.sp++(xK c.fr++(zW c.f.toNat++(zW (c.t - c.f).toNat++zW c.n.toNat)))))
theorem zkL:∀ x:Fin 256,bits BinOp.or IntKind.u8 ((x.val:Nat):Int) 128=((x.val % 128+128:Nat):Int):=by decide +kernel
structure YT (w:World) (base b:Nat) (s:List UInt8):Prop where
  row:∃ v,w.heap[b]? = some (.cells #[.int .i64 0,v] 255 (0,0))∧w.ownsRow base 5 1 v s.length (zE s)
  base:base<=b
theorem YT.chg {S:Nat->Prop} {w w':World} {base b:Nat} {s:List UInt8} (h:YT w base b s) (hc:Chg S w w') (hs:∀ k,base<=k->¬ S k):YT w' base b s:=by
 obtain ⟨v,h1,h2⟩:=h.row;exact ⟨⟨v,hc.obj (hs b h.base) h1,zo h2 hc (fun k hk=>hs k (h2.lt k hk).1)⟩,h.base⟩
theorem Yf (w:World) (b:Nat) (v:Value) (h:w.heap[b]? = some (.cells #[.int .i64 0,v] 255 (0,0))):Calls Tryz.prog 208 #[.pointer (some ⟨b,0,none⟩)] w fun e w'=>e=.returned (.bool true)∧w=w':=by
 have c0:=zg (o:=0) h rfl;clear h;go_enter Tryz.func208,Tryz.ntmps208;go_wp2;go_ret;exact ⟨rfl,rfl⟩
theorem zgJ {m:Nat}:bits BinOp.or IntKind.u8 ((m:Int) % 256) 128=((m % 128+128:Nat):Int):=by
 have:=zkL ⟨m % 256,Nat.mod_lt _ (by omega)⟩;simp only at this;rw [show ((m % 256:Nat):Int)=(m:Int) % 256 from by omega] at this;rw [this]
 congr 1
 omega
theorem zaC {w w5:World} {base b:Nat} {s t:List UInt8} {v v5:Value} (hb:base<=b) (h:w.heap[b]? = some (.cells #[.int .i64 0,v] 255 (0,0))) (ho:w.ownsRow base 5 1 v s.length (zE s)) (ho5:w5.ownsRow base 5 1 v5 t.length (zE t)) (hg:Chg (fun k=>v.ownBlock=some k) w w5):
  w5.heap[b]? = some (.cells #[.int .i64 0,v] 255 (0,0))∧YT (w5.setCell ⟨b,1,none⟩ v5) base b t∧Chg (fun k=>base<=k) w (w5.setCell ⟨b,1,none⟩ v5):=by
 have hne:v.ownBlock≠some b:=fun e=>by
  obtain ⟨cs,hcs⟩:=zM ho e;rw [h] at hcs;cases hcs
 have h5:=hg.obj hne h
 have hne5:v5.ownBlock≠some b:=fun e=>by
  obtain ⟨cs,hcs⟩:=zM ho5 e;rw [h5] at hcs;cases hcs
 have kc:=zA w5 b 1 v5;refine ⟨h5,⟨⟨v5,zq (o:=1) h5 v5,zo ho5 kc (fun k hk e=>hne5 (by rw [<- e];exact hk))⟩,hb⟩,(hg.mono (fun k _ e=>(ho.lt k e).1)).trans (kc.mono (fun k _ e=>by rw [e];exact hb))⟩
set_option maxHeartbeats 2000000 in
set_option maxRecDepth 100000 in
theorem zeG (w:World) (base b:Nat) (s:List UInt8) (n:Nat) (h:YT w base b s) (hn:n<=4611686018427387904) (hs:s.length<=100000):
  Calls Tryz.prog 131 #[.pointer (some ⟨b,0,none⟩),.int .i64 ((n:Nat):Int)] w fun e w'=>e=.returned (.tuple #[])∧YT w' base b (s++zW n)∧Chg (fun k=>base<=k) w w':=by
 have H:=zf h;have hnl:(zW n).length<=9:=Zl 8 n (by omega);obtain ⟨v0,h1,_⟩:=h.row;have WE:=zf (Yf w b v0 h1);have hbw:=zu h1;have g1:decide ((n:Int) < 0)=false:=zly (by omega);have g2:decide (4611686018427387904 < (n:Int))=false:=zly (by omega);clear h h1;go_enter Tryz.func131,Tryz.ntmps131;go_wp2_with fail;(with_reducible refine WE.out.mono ?_);rintro e w1 ⟨rfl,rfl⟩;clear WE;go_wp2;go_loopw [1] (fun nv wr=>∃ (m:Nat) (s':List UInt8),nv=.int .i64 ((m:Nat):Int)∧m<=4611686018427387904∧Hid (YT wr base b s'∧s'++zW m=s++zW n∧Chg (fun k=>base<=k) w wr)) (fun nv _=>(intOf nv).toNat)
 case atStart=>exact ⟨n,s,rfl,hn,zf ⟨H.out,rfl,Chg.refl _ _⟩⟩
 case round=>
  obtain ⟨m,s',rfl,hm,HI⟩:=hrel
  have hl:s'.length<=100009:=by
   have:=congrArg List.length HI.out.2.1;rw [zlC,zlC] at this;omega
  obtain ⟨v,h1,h2⟩:=HI.out.1.row;have hbase:=HI.out.1.base;have EQ:=zf HI.out.2.1;have KC:=zf HI.out.2.2;have OB:=zf h1;have OR:=zf h2;obtain ⟨va,vc,rfl⟩:=zl h2;have c1:=zg (o:=1) h1 rfl;clear h1 h2 HI;have hbr:base<=wr.heap.size:=by have:=zu OB.out;omega
  by_cases hlt:128<=m
  ·have g3:decide (128<=(m:Int))=true:=zlx (by omega)
   have g4:decide ((m:Int) < 128)=false:=zly (by omega);have ob:=zgJ (m:=m);go_wp2_with (at_builtin;refine zK rfl (.tmp 25) (.tmp 29) 23 rfl 5 1 1 Tryz.underlying23 Tryz.elemByte base _ s'.length (zE s') rfl ?a1 wr.heap.size [.int .u8 ((m:Int) % 128+128)] 5 (0,0) rfl ?a2 rfl ?a3 ?a4 ?a5 ?a6 ?a7)
   case a1=>exact zo OR.out (zi (fun _=>False) _ _) (fun _ _ e=>e)
   case a2=>exact zh _ _
   case a3=>intro u hu;simp at hu;subst hu;rfl
   case a4=>omega
   case a5=>unfold maxLen;omega
   case a6=>simp;omega
   intro v5 w5 o5 g5 _;obtain ⟨a5,c5,rfl⟩:=zl o5;have ka:=zi (fun k=>base<=k) wr (.cells #[.int .u8 ((m:Int) % 128+128)] 5);have kf:=zi (fun _=>False) wr (.cells #[.int .u8 ((m:Int) % 128+128)] 5)
   have o5b:w5.ownsRow base 5 1 (.slice a5 (s'.length+1) c5) (s'++[UInt8.ofNat (m % 128+128)]).length (zE (s'++[UInt8.ofNat (m % 128+128)])):=by
    have e:Value.int .u8 ((m:Int) % 128+128)=yL (UInt8.ofNat (m % 128+128)):=ZR _ _ (by omega) (by omega);rw [e] at o5;unfold zE at *;rw [List.map_append,zlC];exact o5
   obtain ⟨h5,r1,r2⟩:=zaC hbase (kf.obj (fun e=>e) OB.out) (zo OR.out kf (fun _ _ e=>e)) o5b (Chg.of_grown g5);have R1:=zf r1;have R2:=zf (KC.out.trans (ka.trans r2));have q1:=zg (o:=1) h5 rfl;have f1:=zk (o:=1) h5
   have EQ2:=zf (show (s'++[UInt8.ofNat (m % 128+128)])++zW (m / 128)=s++zW n from by
    rw [<- EQ.out,Yh hlt];simp)
   clear h5 r1 r2 o5b o5 g5 ka kf OB OR KC EQ c1;go_wp2;go_roundw
   case rel=>exact ⟨m / 128,_,by simp,by omega,zf ⟨R1.out,EQ2.out,R2.out⟩⟩
   case measure=>simp [intOf];omega
  ·have g3:decide (128<=(m:Int))=false:=zly (by omega)
   have g4:decide ((m:Int) < 128)=true:=zlx (by omega);go_wp2_with (at_builtin;refine zK rfl (.tmp 39) (.tmp 42) 23 rfl 5 1 1 Tryz.underlying23 Tryz.elemByte base _ s'.length (zE s') rfl ?b1 wr.heap.size [.int .u8 (m:Int)] 5 (0,0) rfl ?b2 rfl ?b3 ?b4 ?b5 ?b6 ?b7)
   case b1=>exact zo OR.out (zi (fun _=>False) _ _) (fun _ _ e=>e)
   case b2=>exact zh _ _
   case b3=>intro u hu;simp at hu;subst hu;rfl
   case b4=>omega
   case b5=>unfold maxLen;omega
   case b6=>simp;omega
   intro v5 w5 o5 g5 _;obtain ⟨a5,c5,rfl⟩:=zl o5;have ka:=zi (fun k=>base<=k) wr (.cells #[.int .u8 (m:Int)] 5);have kf:=zi (fun _=>False) wr (.cells #[.int .u8 (m:Int)] 5)
   have o5b:w5.ownsRow base 5 1 (.slice a5 (s'.length+1) c5) (s'++[UInt8.ofNat m]).length (zE (s'++[UInt8.ofNat m])):=by
    have e:Value.int .u8 (m:Int)=yL (UInt8.ofNat m):=ZR _ _ (by omega) (by omega);rw [e] at o5;unfold zE at *;rw [List.map_append,zlC];exact o5
   obtain ⟨h5,r1,r2⟩:=zaC hbase (kf.obj (fun e=>e) OB.out) (zo OR.out kf (fun _ _ e=>e)) o5b (Chg.of_grown g5);have EQ2:s'++[UInt8.ofNat m]=s++zW n:=by rw [<- EQ.out,ZQ (by omega)]
   rw [EQ2] at r1;have R1:=zf r1;have R2:=zf (KC.out.trans (ka.trans r2));have q1:=zg (o:=1) h5 rfl;have f1:=zk (o:=1) h5;clear h5 r1 r2 o5b o5 g5 ka kf OB OR KC EQ c1 EQ2;go_wp2;go_end0;exact ⟨rfl,R1.out,R2.out⟩
theorem Tryz.sizeBytes:(Tryz.prog.info? 23).map (·.size)=some 1:=by kernel_rfl
theorem Tryz.infoByte:(Tryz.prog.info? 5).map (fun i=>(i.zero,i.size,i.bytes))=some (some (.int .u8 0),1,1):=by kernel_rfl
theorem ZK (s t:List UInt8):zE (s++t)=zE s++zE t:=by unfold zE;rw [List.map_append]
set_option maxHeartbeats 2000000 in
set_option maxRecDepth 100000 in
theorem zcL (w:World) (base b:Nat) (s:List UInt8) (x:ByteArray) (h:YT w base b s) (hx:ZZ x.data.toList=true) (hs:s.length<=100000):
  Calls Tryz.prog 209 #[.pointer (some ⟨b,0,none⟩),.string x] w fun e w'=>e=.returned (.tuple #[])∧YT w' base b (s++ZX x)∧Chg (fun k=>base<=k) w w':=by
 have H:=zf h;have hxs:=(Zq hx).1;obtain ⟨_,_,hx8,_⟩:=(Zr _).1 hx;have hbase:=h.base;have MY:=xg w x (by unfold maxLen;omega);rw [hx] at MY;have MY:=zf MY;have WL:=zf (fun w=>yf w x (by unfold maxLen;omega));clear h;go_enter Tryz.func209,Tryz.ntmps209;go_wp2_with fail;(with_reducible refine MY.out.mono ?_);rintro e w1 ⟨rfl,k1⟩;have H1:=zf (H.out.chg k1 (fun _ _ e=>e));have K1:=zf (show Chg (fun k=>base<=k) w w1 from k1.mono (fun _ _ e=>e.elim));obtain ⟨v,h1,h2⟩:=H1.out.row;have WE:=zf (Yf w1 b v h1);have OB:=zf h1;have OR:=zf h2;obtain ⟨va,vc,rfl⟩:=zl h2;have c1:=zg (o:=1) h1 rfl;have hbr:base<=w1.heap.size:=by have:=zu h1;omega
 clear h1 h2 k1 MY H H1;go_wp2_with fail;(with_reducible refine WE.out.mono ?_);rintro e w2 ⟨rfl,rfl⟩;clear WE;go_wp2_with fail;refine Zf (N:=36) [.rd [0,1,2,3,4,5],.ef 6,.ef 7,.ef 8,.ef 9,.ef 10,.ef 11,.ef 12] 12 (fun W=>W.cell? ⟨b,1,none⟩=some (.slice va s.length vc)) (by kernel_rfl) (by kernel_rfl) (by kernel_rfl) (by kernel_rfl) (by kernel_rfl) (Nat.le_of_ble_eq_true rfl) c1 ?_;refine Yg (A:=?A1) ?h1 ?h2
 case h1=>
  rintro w' z0 K hK;simp only [zS,zls,zlt,zlu,zlv,zlw]
  repeat still_step
  refine wpStill_nil ?_;exact hK
 have d0:w1.drew.cell? ⟨b,1,none⟩=some (.slice va s.length vc):=c1;have OBD:=zf ((zy (fun _=>False) w1).obj (fun e=>e) OB.out);have ORD:=zf (zo OR.out (zy (fun _=>False) w1) (fun _ _ e=>e));have KD:=zf (K1.out.drew);have hbd:base<=w1.drew.heap.size:=hbr;clear c1 OB OR K1 hbr;generalize w1.drew=wd at *;have WL1:=zf (WL.out wd);refine zG rfl ?_;go_wp2_with fail;(with_reducible refine WL1.out.mono ?_);rintro e w2 ⟨rfl,rfl⟩;go_wp2_with fail;refine ⟨.inr d0,?_⟩;refine zG rfl ?_;go_wp2_with fail;refine ⟨.inr d0,?_⟩;refine zG rfl ?_;go_wp2_with fail;have kf:=zi (fun _=>False) wd (.cells #[.int .u8 ((zI x.data.toList:Nat):Int)] 5);have ka:=zi (fun k=>base<=k) wd (.cells #[.int .u8 ((zI x.data.toList:Nat):Int)] 5);refine ⟨.inr (zj kf (fun e=>e) d0),?_⟩;refine zG rfl ?_;refine zK rfl (.tmp 19) (.tmp 23) 23 rfl 5 1 1 Tryz.underlying23 Tryz.elemByte base _ s.length (zE s) rfl (zo ORD.out kf (fun _ _ e=>e)) wd.heap.size [.int .u8 ((zI x.data.toList:Nat):Int)] 5 (0,0) rfl (zh _ _) rfl (by intro u hu;simp at hu;subst hu;rfl) (by omega) (by unfold maxLen;omega) (by simp;omega) ?_;intro v5 w5 o5 g5 _;obtain ⟨a5,c5,rfl⟩:=zl o5
 have o5b:w5.ownsRow base 5 1 (.slice a5 (s.length+1) c5) (s++[UInt8.ofNat (zI x.data.toList)]).length (zE (s++[UInt8.ofNat (zI x.data.toList)])):=by
  have e:Value.int .u8 ((zI x.data.toList:Nat):Int)=yL (UInt8.ofNat (zI x.data.toList)):=ZR _ _ (by omega) rfl;rw [e] at o5;rw [ZK,zlC];exact o5
 obtain ⟨h5,r1,r2⟩:=zaC hbase (kf.obj (fun e=>e) OBD.out) (zo ORD.out kf (fun _ _ e=>e)) o5b (Chg.of_grown g5);have q1:=zg (o:=1) h5 rfl;have f1:=zk (o:=1) h5;have R1:=zf r1;have R2:=zf (KD.out.trans (ka.trans r2));clear h5 r1 r2 o5b o5 g5 ka kf OBD ORD KD d0 WL1 WL;go_wp2_with fail;refine ⟨.inr q1,?_⟩;refine zG rfl ?_;go_wp2_with fail;refine ⟨.inr q1,?_⟩;refine zG rfl ?_;go_wp2_with fail;refine ⟨.inr q1,?_⟩;refine zG rfl ?_;refine Zw rfl 23 (.tmp 26) (.tmp 24) rfl b 1 rfl (.slice a5 (s.length+1) c5) rfl rfl rfl Tryz.sizeBytes _ q1 f1 ?_;intro w7 hw7;rw [<- hw7] at R1 R2;refine ⟨.inl rfl,ZM ?_⟩;clear hw7 q1 f1;obtain ⟨v8,h1,h2⟩:=R1.out.row;have OB:=zf h1;have OR:=zf h2;obtain ⟨va,vc,rfl⟩:=zl h2;have c1:=zg (o:=1) h1 rfl;have hbr:base<=w7.heap.size:=by have:=zu h1;omega
 have hl9:(s++[UInt8.ofNat (zI x.data.toList)]).length<=100001:=by simp;omega
 clear h1 h2 R1;generalize hsl:s++[UInt8.ofNat (zI x.data.toList)]=s1 at *;have HSL:=zf hsl;clear hsl;go_wp2_with (at_builtin;refine Yd rfl (.tmp 31) (.tmp 32) 23 29 rfl 5 Tryz.underlying23 Tryz.underlying29 Tryz.infoByte base _ s1.length (zE s1) rfl OR.out x rfl ?e1 ?e2 ?e3)
 case e1=>omega
 case e2=>omega
 intro v9 w9 o9 g9;obtain ⟨a9,c9,rfl⟩:=zl o9
 have o9b:w9.ownsRow base 5 1 (.slice a9 (s1.length+x.size) c9) (s1++x.data.toList).length (zE (s1++x.data.toList)):=by
  rw [ZK,zlC,zz];exact o9
 obtain ⟨h9,r1,r2⟩:=zaC hbase OB.out OR.out o9b (Chg.of_grown g9);have EQ:s1++x.data.toList=s++ZX x:=by rw [<- HSL.out];unfold ZX;simp
 rw [EQ] at r1;have R3:=zf r1;have R4:=zf (R2.out.trans r2);have q1:=zg (o:=1) h9 rfl;have f1:=zk (o:=1) h9;clear h9 r1 r2 o9b o9 g9 OB OR R2 c1 EQ HSL;go_wp2;go_end0;exact ⟨rfl,R3.out,R4.out⟩
theorem YD {l:List ByteArray} {k:Nat} {x:ByteArray} (hx:l[k]? = some x):Zh (l.take (k+1))=Zh (l.take k)++ZX x:=by
 unfold Zh;rw [zlR,hx,List.flatMap_append];simp
theorem xV {x:ByteArray} (h:ZZ x.data.toList=true):(ZX x).length<=17:=by
 obtain ⟨h1,h2⟩:=YY h;unfold ZX;rw [List.length_cons];omega
theorem yS:∀ (l:List ByteArray),(∀ x∈l,ZZ x.data.toList=true)->(Zh l).length<=17*l.length
 | [],_=>by simp [Zh]
 | a :: l,h=>by
  unfold Zh;rw [List.flatMap_cons,zlC,List.length_cons];have h1:=xV (h a List.mem_cons_self);have h2:=yS l (fun x hx=>h x (List.mem_cons_of_mem _ hx));unfold Zh at h2;omega
set_option maxHeartbeats 2000000 in
set_option maxRecDepth 100000 in
theorem zh6 (w:World) (base b:Nat) (s:List UInt8) (l:List ByteArray) (a:Option Addr) (n c:Nat) (G:Nat->Prop) (h:YT w base b s) (hv:zV w (.slice a n c) G l) (hG:∀ k,G k->k < base) (hl:xw l=true) (hs:s.length<=1000):
  Calls Tryz.prog 132 #[.pointer (some ⟨b,0,none⟩),.slice a n c] w fun e w'=>e=.returned (.tuple #[])∧YT w' base b (s++xK l)∧Chg (fun k=>base<=k) w w':=by
 have H:=zf h;have HV:=zf hv
 have l16:l.length<=16:=by
  obtain ⟨_,q,_⟩:=of_decide_eq_true hl;rwa [zU] at q
 have MAY:=zf (show ∀ x∈l,ZZ x.data.toList=true from fun x hx=>Zm hl hx);have hbase:=h.base;have SM:=Yt w _ G l hv;rw [hl] at SM;have SM:=zf SM;obtain ⟨_,_,e,hl0,_⟩:=hv;cases e;clear h hl;unfold maxLen at hl0;go_enter Tryz.func132,Tryz.ntmps132;go_wp2_with fail;(with_reducible refine SM.out.mono ?_);rintro e w1 ⟨rfl,d1⟩;have k1:Chg (fun _=>False) w w1:=d1.chg;have H1:=zf (H.out.chg k1 (fun _ _ e=>e));have K1:=zf (show Chg (fun k=>base<=k) w w1 from k1.mono (fun _ _ e=>e.elim));obtain ⟨v,h1,h2⟩:=H1.out.row;have WE:=zf (Yf w1 b v h1);have OB:=zf h1;have OR:=zf h2;obtain ⟨va,vc,rfl⟩:=zl h2;have c1:=zg (o:=1) h1 rfl;have hbr:base<=w1.heap.size:=by have:=zu h1;omega
 clear h1 h2 k1 d1 SM H H1;go_wp2_with fail;(with_reducible refine WE.out.mono ?_);rintro e w2 ⟨rfl,rfl⟩;clear WE;go_wp2_with (at_builtin;refine zK rfl (.tmp 22) (.tmp 26) 23 rfl 5 1 1 Tryz.underlying23 Tryz.elemByte base _ s.length (zE s) rfl ?a1 w1.heap.size [.int .u8 (l.length:Int)] 5 (0,0) rfl ?a2 rfl ?a3 ?a4 ?a5 ?a6 ?a7)
 case a1=>exact zo OR.out (zi (fun _=>False) _ _) (fun _ _ e=>e)
 case a2=>exact zh _ _
 case a3=>intro u hu;simp at hu;subst hu;rfl
 case a4=>omega
 case a5=>unfold maxLen;omega
 case a6=>simp;omega
 intro v5 w5 o5 g5 _;obtain ⟨a5,c5,rfl⟩:=zl o5;have ka:=zi (fun k=>base<=k) w1 (.cells #[.int .u8 (l.length:Int)] 5);have kf:=zi (fun _=>False) w1 (.cells #[.int .u8 (l.length:Int)] 5)
 have o5b:w5.ownsRow base 5 1 (.slice a5 (s.length+1) c5) (s++[UInt8.ofNat l.length]).length (zE (s++[UInt8.ofNat l.length])):=by
  have e:Value.int .u8 (l.length:Int)=yL (UInt8.ofNat l.length):=ZR _ _ (by omega) rfl;rw [e] at o5;rw [ZK,zlC];exact o5
 obtain ⟨h5,r1,r2⟩:=zaC hbase (kf.obj (fun e=>e) OB.out) (zo OR.out kf (fun _ _ e=>e)) o5b (Chg.of_grown g5);have q1:=zg (o:=1) h5 rfl;have f1:=zk (o:=1) h5;have R1:=zf r1;have R2:=zf (K1.out.trans (ka.trans r2));clear h5 r1 r2 o5b o5 g5 ka kf OB OR K1 c1;go_wp2;generalize w5.setCell ⟨b,1,none⟩ (.slice a5 (s.length+1) c5)=w6 at *;go_loopw [32] (fun iv wr=>∃ k:Nat,k<=l.length∧iv=.int .i64 k∧Hid (YT wr base b ((s++[UInt8.ofNat l.length])++Zh (l.take k))∧Chg (fun k=>base<=k) w wr)) (fun iv _=>l.length - (intOf iv).toNat)
 case atStart=>exact ⟨0,by omega,rfl,zf ⟨by simpa [Zh] using R1.out,R2.out⟩⟩
 case round=>
  obtain ⟨k,hk,rfl,HI⟩:=hrel;clear q1 f1;by_cases hlt:k < l.length
  ·obtain ⟨x,hx⟩:∃ x,l[k]? = some x:=⟨_,zlz hlt⟩
   obtain ⟨_,_,e1,_,hcl⟩:=HV.out.chg HI.out.2 (fun k hk e=>by have:=hG k hk;omega);cases e1;obtain ⟨lb,lo,rfl,_,c0,_⟩:=hcl k x hx;have WW:=yS (l.take k) (fun y hy=>MAY.out y (List.mem_of_mem_take hy));rw [zlE] at WW;have OW:=zcL wr base b _ x HI.out.1 (MAY.out x (zlB hx)) (by rw [zlC,zlC];simp;omega);rw [List.append_assoc,<- YD hx] at OW;have OW:=zf OW;have KI:=zf HI.out.2;clear hcl hx HI WW;go_wp2_with fail;(with_reducible refine OW.out.mono ?_);rintro e w7 ⟨rfl,h7,k7⟩;have H7:=zf h7;have K7:=zf (KI.out.trans k7);clear h7 k7 OW KI c0;go_wp2;go_roundw
   case rel=>exact ⟨k+1,by omega,by go_num,zf ⟨H7.out,K7.out⟩⟩
   case measure=>simp [intOf];omega
  ·obtain rfl:k=l.length:=by omega
   have FIN:=zf (show YT wr base b (s++xK l) from by
    have:=HI.out.1;rw [zlT] at this;unfold xK;rw [List.append_assoc] at this;exact this)
   have KI:=zf HI.out.2;clear HI;go_wp2;go_end0;exact ⟨rfl,FIN.out,KI.out⟩
set_option maxRecDepth 100000 in
theorem zaD (w:World) (base b:Nat) (s:List UInt8) (h:YT w base b s) (h1:1<=s.length) (hs:s.length<=100000):
  Calls Tryz.prog 133 #[.pointer (some ⟨b,0,none⟩)] w fun e w'=>e=.returned (.tuple #[.string ⟨s.toArray⟩,.int .i64 0])∧w=w':=by
 obtain ⟨v,hb,ho⟩:=h.row;have WE:=zf (Yf w b v hb);have c1:=zg (o:=1) hb rfl;obtain ⟨ra,rc,rfl,hrl,hcl⟩:=YW ho;unfold maxLen at hrl;obtain ⟨g,rfl,_,_⟩:=hcl 0 _ (yq s 0 (by omega))
 have hcv:=run_convert_bytes_arg (P:=Tryz.prog) w 23 5 Tryz.underlying23 Tryz.underlying5 g 0 s.length rc (s.map fun c=>(c.toNat:Int)) (by rw [zlD])
  (fun i hi=>by
   obtain ⟨g',e',_,cx⟩:=hcl i _ (yq s i hi);cases e';rw [Nat.zero_add];exact cx) 9 Tryz.underlying9
 rw [ZA] at hcv;clear hcl hb ho h;go_enter Tryz.func133,Tryz.ntmps133;go_wp2_with fail;(with_reducible refine WE.out.mono ?_);rintro e w2 ⟨rfl,rfl⟩;go_wp2;go_ret2;exact ⟨rfl,rfl⟩
theorem zh8 (w:World) (base b:Nat) (s:List UInt8) (z:Int) (h:YT w base b s) (h0:0<=z) (hn:z<=4611686018427387904) (hs:s.length<=100000):
  Calls Tryz.prog 131 #[.pointer (some ⟨b,0,none⟩),.int .i64 z] w fun e w'=>e=.returned (.tuple #[])∧YT w' base b (s++zW z.toNat)∧Chg (fun k=>base<=k) w w':=by
 have:=zeG w base b s z.toNat h (by omega) hs;rwa [show ((z.toNat:Nat):Int)=z from by omega] at this
theorem yd (n:Nat):1<=(zW n).length:=by
 rcases Nat.lt_or_ge n 128 with h | h
 ·rw [ZQ h];simp
 ·rw [Yh h];simp
def XX (w:World) (c:zF) (b:Bool) (e:Ending) (w':World):Prop:=
  ((b=true∧e=.returned (.tuple #[.string ⟨(Zk c).toArray⟩,.int .i64 0]))∨(b=false∧∃ k:Int,k≠0∧e=.returned (.tuple #[.string ⟨#[]⟩,.int .i64 k])))∧Chg (fun _=>False) w w'
theorem zbo {z:Int} (h:z<=4611686018427387904):(zW z.toNat).length<=9:=Zl 8 _ (by omega)
set_option maxHeartbeats 8000000 in
set_option maxRecDepth 100000 in
theorem xt (w:World) (c:zF) (sa:Option Addr) (sc:Nat) (G:Nat->Prop) (h:ZW w (.slice sa c.fr.length sc) G c) (hG:∀ k,G k->k < w.heap.size):
  Calls Tryz.prog 148 #[Zn c (.slice sa c.fr.length sc)] w (XX w c (Zj c)):=by
 have k0:=zi (fun _=>False) w (.cells #[.int .i64 c.kind,.int .u16 (c.sg:Int),.string c.sp,.slice sa c.fr.length sc,.int .i64 c.f,.int .i64 c.t,.int .i64 c.n] 103);have OB:=zf (zh w (.cells #[.int .i64 c.kind,.int .u16 (c.sg:Int),.string c.sp,.slice sa c.fr.length sc,.int .i64 c.f,.int .i64 c.t,.int .i64 c.n] 103));have K0:=zf k0;have hsz:(w.alloc (.cells #[.int .i64 c.kind,.int .u16 (c.sg:Int),.string c.sp,.slice sa c.fr.length sc,.int .i64 c.f,.int .i64 c.t,.int .i64 c.n] 103)).heap.size=w.heap.size+1:=zlH _ _;have HS:=zf (h.chg k0 (fun _ _ e=>e));have CK:=zf (zdb _ c sa sc G HS.out);have CM:=zf (fun e:Zj c=true=>ZO e);have CE:=zf (show Zk c=zW c.kind.toNat++(zW c.sg++(ZX c.sp++(xK c.fr++(zW c.f.toNat++(zW (c.t - c.f).toNat++zW c.n.toNat))))) from rfl);have GD:=zf hG;unfold XX;generalize Zk c=ce at *;generalize Zj c=res at *;obtain ⟨_,scap',eqn,hl0,_⟩:=h.set.at_;cases eqn;obtain ⟨kind,sg,sp,fr,f,t,n⟩:=c;unfold Zn at CK ⊢;simp only at OB K0 hsz HS CK CM CE hl0 ⊢;unfold maxLen at hl0;clear h k0 hG;have p0:=zg (o:=0) OB.out rfl;have p1:=zg (o:=1) OB.out rfl;have p2:=zg (o:=2) OB.out rfl;have p3:=zg (o:=3) OB.out rfl;have p4:=zg (o:=4) OB.out rfl;have p5:=zg (o:=5) OB.out rfl;have p6:=zg (o:=6) OB.out rfl;have P:=zf (fun (B:Nat) (w1:World) (hB:w.heap.size < B) (k:Chg (fun k=>B<=k) (w.alloc (.cells #[.int .i64 kind,.int .u16 (sg:Int),.string sp,.slice sa fr.length sc,.int .i64 f,.int .i64 t,.int .i64 n] 103)) w1)=>k.obj (fun e=>by omega) OB.out);go_enter Tryz.func148,Tryz.ntmps148;go_wp2_with fail;generalize hw0:w.alloc (.cells #[.int .i64 kind,.int .u16 (sg:Int),.string sp,.slice sa fr.length sc,.int .i64 f,.int .i64 t,.int .i64 n] 103)=w0 at *;clear hw0 p0 p1 p2 p3 p4 p5 p6;(with_reducible refine CK.out.mono ?_);rintro e w1 ⟨⟨k,rfl,hk⟩,k1⟩;clear CK;have K1:=zf (K0.out.trans k1);by_cases hk0:k=0
 ·subst hk0
  have hres:res=true:=hk.1 rfl;subst hres;have C:=CM.out rfl;have C1:1<=kind:=C.k1;have C2:kind<=7:=C.k7;have C3:sg / 8192=1:=C.sg;have C4:ZZ sp.data.toList=true:=C.sp;have C5:xw fr=true:=C.fr;have C6:0<=f:=C.f0;have C7:f<=4611686018427387904:=C.f1;have C8:0<=t:=C.t0;have C9:t<=4611686018427387904:=C.t1;have C10:0<=n:=C.n0;have C11:n<=4611686018427387904:=C.n1;have C12:f<=t:=C.ft
  have hfl:fr.length<=16:=by
   obtain ⟨_,q,_⟩:=of_decide_eq_true C5;rwa [zU] at q
  have L1:=zbo (z:=kind) (by omega);have L2:(zW sg).length<=9:=Zl 8 _ (by omega);have L3:=xV C4
  have L4:(xK fr).length<=17*fr.length+1:=by
   have:=yS fr (fun x hx=>Zm C5 hx);unfold xK;rw [List.length_cons];omega
  have L5:=zbo (z:=f) (by omega);have L6:=zbo (z:=t - f) (by omega);have L7:=zbo (z:=n) (by omega);have LL:=zf (And.intro L1 (And.intro L2 (And.intro L3 (And.intro L4 (And.intro L5 (And.intro L6 L7))))));have hwr:IntKind.i64.wrap (t - f)=t - f:=by rw [IntKind.wrap_i64];omega
  clear L1 L2 L3 L4 L5 L6 L7 C CM;have hs1:w0.heap.size<=w1.heap.size:=k1.size;have ka:=zi (fun _=>False) w1 (.cells #[.int .i64 0,.slice none 0 0] 255);have OB1:=zh w1 (.cells #[.int .i64 0,.slice none 0 0] 255);have sz1:(w1.alloc (.cells #[.int .i64 0,.slice none 0 0] 255)).heap.size=w1.heap.size+1:=zlH _ _;have O1:YT (w1.alloc (.cells #[.int .i64 0,.slice none 0 0] 255)) w1.heap.size w1.heap.size []:=⟨⟨_,OB1,World.ownsRow_nil _ _ _ _⟩,zlS _⟩;have KA:=zf (show Chg (fun k=>w1.heap.size<=k) w0 (w1.alloc (.cells #[.int .i64 0,.slice none 0 0] 255)) from (k1.trans ka).mono (fun _ _ e=>e.elim));have N1:=zf (zh8 _ _ _ [] kind O1 (by omega) (by omega) (by simp));have f0:=P.out w1.heap.size _ (by omega) KA.out;have q0:=zg (o:=0) f0 rfl;clear f0 O1 OB1 ka hk;go_wp2_with fail;generalize hB:w1.heap.size=B at *;generalize hwa:w1.alloc (.cells #[.int .i64 0,.slice none 0 0] 255)=wa at *;clear hwa q0;(with_reducible refine N1.out.mono ?_);rintro e w2 ⟨rfl,o2,k2⟩;clear N1;have O2:=zf o2;have K2:=zf k2;clear o2 k2;have f0:=P.out B _ (by omega) (KA.out.trans K2.out);have q1:=zg (o:=1) f0 rfl;have N2:=zf (zeG _ _ _ _ sg O2.out (by omega) (by have:=LL.out;simp only [zlC,List.length_nil];omega));clear f0;go_wp2_with fail;(with_reducible refine N2.out.mono ?_);rintro e w3 ⟨rfl,o3,k3⟩;have O3:=zf o3;have K3:=zf (K2.out.trans k3);clear o3 k3 N2 O2 K2 q1;have f0:=P.out B _ (by omega) (KA.out.trans K3.out);have q2:=zg (o:=2) f0 rfl;have N3:=zf (zcL _ _ _ _ sp O3.out C4 (by have:=LL.out;simp only [zlC,List.length_nil];omega));clear f0;go_wp2_with fail;(with_reducible refine N3.out.mono ?_);rintro e w4 ⟨rfl,o4,k4⟩;have O4:=zf o4;have K4:=zf (K3.out.trans k4);clear o4 k4 N3 O3 K3 q2;have f0:=P.out B _ (by omega) (KA.out.trans K4.out);have q3:=zg (o:=3) f0 rfl;have N4:=zf (zh6 _ _ _ _ fr sa fr.length sc G O4.out (HS.out.set.chg (KA.out.trans K4.out) (fun k hk e=>by have:=GD.out k hk;omega)).at_ (fun k hk=>by have:=GD.out k hk;omega) C5 (by have:=LL.out;simp only [zlC,List.length_nil];omega));clear f0;go_wp2_with fail;(with_reducible refine N4.out.mono ?_);rintro e w5 ⟨rfl,o5,k5⟩;have O5:=zf o5;have K5:=zf (K4.out.trans k5);clear o5 k5 N4 O4 K4 q3;have f0:=P.out B _ (by omega) (KA.out.trans K5.out);have q4:=zg (o:=4) f0 rfl;have N5:=zf (zh8 _ _ _ _ f O5.out (by omega) (by omega) (by have:=LL.out;simp only [zlC,List.length_nil];omega));clear f0;go_wp2_with fail;(with_reducible refine N5.out.mono ?_);rintro e w6 ⟨rfl,o6,k6⟩;have O6:=zf o6;have K6:=zf (K5.out.trans k6);clear o6 k6 N5 O5 K5 q4;have f0:=P.out B _ (by omega) (KA.out.trans K6.out);have q5:=zg (o:=5) f0 rfl;have q4:=zg (o:=4) f0 rfl;have N6:=zf (zh8 _ _ _ _ (t - f) O6.out (by omega) (by omega) (by have:=LL.out;simp only [zlC,List.length_nil];omega));clear f0;go_wp2_with fail;(with_reducible refine N6.out.mono ?_);rintro e w7 ⟨rfl,o7,k7⟩;have O7:=zf o7;have K7:=zf (K6.out.trans k7);clear o7 k7 N6 O6 K6 q5 q4;have f0:=P.out B _ (by omega) (KA.out.trans K7.out);have q6:=zg (o:=6) f0 rfl;have N7:=zf (zh8 _ _ _ _ n O7.out (by omega) (by omega) (by have:=LL.out;simp only [zlC,List.length_nil];omega));clear f0;go_wp2_with fail;(with_reducible refine N7.out.mono ?_);rintro e w8 ⟨rfl,o8,k8⟩;have O8:=zf o8;have K8:=zf (K7.out.trans k8);clear o8 k8 N7 O7 K7 q6;have N8:=zf (zaD _ _ _ _ O8.out (by have:=yd kind.toNat;simp only [zlC,List.length_nil];omega) (by have:=LL.out;simp only [zlC,List.length_nil];omega));go_wp2_with fail;(with_reducible refine N8.out.mono ?_);rintro e w9 ⟨rfl,rfl⟩;have R:=zf (show ce=(((((([]++zW kind.toNat)++zW sg)++ZX sp)++xK fr)++zW f.toNat)++zW (t - f).toNat)++zW n.toNat from by rw [CE.out];simp);generalize (((((([]++zW kind.toNat)++zW sg)++ZX sp)++xK fr)++zW f.toNat)++zW (t - f).toNat)++zW n.toNat=ce2 at *;have FIN:=zf (show Chg (fun _=>False) w w8 from ((K0.out.mono (fun _ _ e=>e.elim)).trans (KA.out.trans K8.out)).mono (fun k hk e=>by omega));clear N8 LL CE O8;go_wp2;go_ret2;have R2:=R.out;subst R2;exact ⟨rfl,FIN.out⟩
 ·have hres:res=false:=by
   cases res with
   | false=>rfl
   | true=>exact absurd (hk.2 rfl) hk0
  clear hk;go_wp2;go_ret2;exact ⟨.inr ⟨hres,k,hk0,rfl⟩,K1.out⟩
end Go.Proofs.YtcilaocknhphnaaGreat
