/-
  Package pack: Out, once more: what may change is any set of blocks that has the writer, its row, and all that is new. The reference's Less. The reference's Equal. The reference's Right and And. Sets of words: the reference's May. What the reference's like and Check say, in plain Lean. The reference's Kind, single, num and like. The reference's Check. Entries of access lists in memory; append of a slice that is cut full; the lists in plain Lean. Numbers, sets and records as bytes, in plain Lean. What is accepted, in plain Lean. What is accepted without one that isn't, in plain Lean. What the laws of what is accepted lean on, in plain Lean. Package accept: the looker's stale; slices.Index, Contains of words. Package accept: the looker's words. Package accept: backed, Backed, refused. Package accept: refused, Has; cert.Rules; slices.Clone of rules. Package accept: what the run keeps in memory. Package accept: Run. Package accept: what Run answers, apart; rows of certificates.
-/
import Derived.Test.YtcilaocknhphnaaGreatZgRBase
import Derived.Test.YtcilaocknhphnaaGreatZgCSet
import Derived.Test.YtcilaocknhphnaaGreatZgCEnc
import Derived.Test.YtcilaocknhphnaaGreatZgMRefs
import Derived.Test.YtcilaocknhphnaaGreatZgKit2
import Derived.Deep.DeepCutAuto
import Derived.Deep.CutBlock
import Derived.Test.YtcilaocknhphnaaGreatZgCLike
import Derived.Test.YtcilaocknhphnaaGreatZgCCheck
import Derived.Deep.Upon
namespace Go.Proofs.YtcilaocknhphnaaGreat
open Go.RowKit Go.Maps
theorem yW {P:Program} {w:World} {ops:Array Oper} {rest:List Oper} {o:Oper} {a:Act} {Q:Exit->Act->World->Prop} (hgd:o.guard=none) (sl x:Operand) (t u:TypeId)
  (ho:o.op=.call { callee:=.builtin .append,args:=#[sl,x],argTypes:=#[t,u] }) (e:TypeId) (ht:P.underlying t=some (.slice e)) (hu:P.underlying u=some .string)
  (hE:(P.info? e).map (fun i=>(i.zero,i.size,i.bytes))=some (some (.int .u8 0),1,1))
  (base:Nat) (v:Value) (n:Nat) (xs:List Value) (hs:a.eval sl=v) (hown:w.ownsRow base e 1 v n xs) (s:ByteArray) (hx:a.eval x=.string s)
  (h63:n+s.size<=140737488355328) (hbase:base<=w.heap.size)
  (h:∀ v' w',w'.ownsRow base e 1 v' (n+s.size) (xs++zE s.data.toList)->w.grownBy w' v.ownBlock->yJ w v v'->wpList P ops Q rest (a.put o.dst v') w'):wpList P ops Q (o :: rest) a w:=by
 obtain ⟨i,hi,q1,q2,q3⟩:=info_parts hE;refine wpList_plain hgd fun K hK=>?_;obtain ⟨v',w',hr,h2,h3,h4⟩:=Lib.run_append_own_string (P:=P) w base t u o.type e i ht hu hi q1 q2 q3 v n xs hown s (by unfold maxLen;omega) h63 hbase
 have sn:yJ w v v':=by
  have hxl:xs.length=n:=by simpa using hown.1
  rcases hown.2 with ⟨rfl,rfl⟩ | ⟨g,cap,cur,rfl,hbg,hg,hnc,hcm,hcs,htake⟩
  ·have hx:xs=[]:=List.eq_nil_of_length_eq_zero hxl
   subst hx;obtain ⟨v2,w2,hr2,p1,_,_⟩:=Lib.run_append_own_string (P:=P) w w.heap.size t u o.type e i ht hu hi q1 q2 q3 (.slice none 0 0) 0 [] (World.ownsRow_nil _ _ _ _) s (by unfold maxLen;omega) h63 (zlS _);rw [hr] at hr2;cases hr2;exact .inr fun k hk=>(p1.lt k hk).1
  ·by_cases hroom:n+s.size<=cap
   ·have hcs':cur.size=cap:=by simpa using hcs
    have hr2:=Lib.run_append_room_string (P:=P) w t u o.type e i ht hu hi q2 g n cap cur hg s hroom (by omega);rw [hr] at hr2;cases hr2;exact .inl rfl
   ·have holds:∀ j u,xs[j]? = some u->w.cell? ((⟨g,0,none⟩:Addr).add j)=some u:=hown.cells (g:=g) rfl
    have hr2:=Lib.run_append_grow_string (P:=P) w t u o.type e i (.int .u8 0) ht hu hi q1 ⟨g,0,none⟩ n cap xs (by rw [q2];simpa using hxl) holds s (by omega) (by omega) (by rw [q3];exact growslice_fits (by omega) (by omega));rw [hr] at hr2;cases hr2;exact .inr fun k hk=>by simp [Value.ownBlock] at hk;omega
 unfold Oper.wp execOp;simp only [ho,resolve,invoke,builtin,Sem.run_bind,Sem.run_pure,Result.andThen_ok,List.map_toArray,List.map_cons,List.map_nil,hs,hx,hr];exact hK _ _ (h v' w' h2 h3 sn)
structure xA (w:World) (S:Nat->Prop) (b:Nat) (s:List UInt8):Prop where
  row:∃ v,w.heap[b]? = some (.cells #[.int .i64 0,v] 255 (0,0))∧w.ownsRow 0 5 1 v s.length (zE s)∧∀ k,v.ownBlock=some k->S k
  base:S b
theorem xA.chg {S T:Nat->Prop} {w w':World} {b:Nat} {s:List UInt8} (h:xA w S b s) (hc:Chg T w w') (hs:∀ k,S k->¬ T k):xA w' S b s:=by
 obtain ⟨v,h1,h2,h3⟩:=h.row;exact ⟨⟨v,hc.obj (hs b h.base) h1,zo h2 hc (fun k hk=>hs k (h3 k hk)),h3⟩,h.base⟩
theorem xA.to {S T:Nat->Prop} {w:World} {b:Nat} {s:List UInt8} (h:xA w S b s) (hs:∀ k,k < w.heap.size->S k->T k):xA w T b s:=by
 obtain ⟨v,h1,h2,h3⟩:=h.row;exact ⟨⟨v,h1,h2,fun k hk=>hs k (h2.lt k hk).2 (h3 k hk)⟩,hs b (zu h1) h.base⟩
theorem xA.at_ {S:Nat->Prop} {w:World} {b:Nat} {s:List UInt8} (h:xA w S b s):YT w 0 b s:=by
 obtain ⟨v,h1,h2,h3⟩:=h.row;exact ⟨⟨v,h1,h2⟩,Nat.zero_le _⟩
theorem zfg {S:Nat->Prop} {w:World} {v v':Value} (sn:yJ w v v') (h:∀ k,v.ownBlock=some k->S k) (hn:∀ k,w.heap.size<=k->S k):∀ k,v'.ownBlock=some k->S k:=by
 rcases sn with e | e
 ·rw [e];exact h
 ·exact fun k hk=>hn k (e k hk)
theorem xo {S:Nat->Prop} {w w5:World} {b:Nat} {s t:List UInt8} {v v5:Value} (hb:S b) (h:w.heap[b]? = some (.cells #[.int .i64 0,v] 255 (0,0))) (ho:w.ownsRow 0 5 1 v s.length (zE s)) (ho5:w5.ownsRow 0 5 1 v5 t.length (zE t)) (hg:Chg (fun k=>v.ownBlock=some k) w w5)
  (hv:∀ k,v.ownBlock=some k->S k) (hv5:∀ k,v5.ownBlock=some k->S k):
  w5.heap[b]? = some (.cells #[.int .i64 0,v] 255 (0,0))∧xA (w5.setCell ⟨b,1,none⟩ v5) S b t∧Chg S w (w5.setCell ⟨b,1,none⟩ v5):=by
 have hne:v.ownBlock≠some b:=fun e=>by
  obtain ⟨cs,hcs⟩:=zM ho e;rw [h] at hcs;cases hcs
 have h5:=hg.obj hne h
 have hne5:v5.ownBlock≠some b:=fun e=>by
  obtain ⟨cs,hcs⟩:=zM ho5 e;rw [h5] at hcs;cases hcs
 have kc:=zA w5 b 1 v5;refine ⟨h5,⟨⟨v5,zq (o:=1) h5 v5,zo ho5 kc (fun k hk e=>hne5 (by rw [<- e];exact hk)),hv5⟩,hb⟩,(hg.mono (fun k _ e=>hv k e)).trans (kc.mono (fun k _ e=>by rw [e];exact hb))⟩
set_option maxHeartbeats 2000000 in
set_option maxRecDepth 100000 in
theorem xj (w:World) (S:Nat->Prop) (b:Nat) (s:List UInt8) (n:Nat) (h:xA w S b s) (hS:∀ k,w.heap.size<=k->S k) (hn:n<=4611686018427387904) (hs:s.length<=100000):
  Calls Tryz.prog 131 #[.pointer (some ⟨b,0,none⟩),.int .i64 ((n:Nat):Int)] w fun e w'=>e=.returned (.tuple #[])∧xA w' S b (s++zW n)∧Chg S w w':=by
 have H:=zf h;have HS:=zf hS;have hnl:(zW n).length<=9:=Zl 8 n (by omega);obtain ⟨v0,h1,_,_⟩:=h.row;have WE:=zf (Yf w b v0 h1);have hbw:=zu h1;have g1:decide ((n:Int) < 0)=false:=zly (by omega);have g2:decide (4611686018427387904 < (n:Int))=false:=zly (by omega);clear h h1;go_enter Tryz.func131,Tryz.ntmps131;go_wp2_with fail;(with_reducible refine WE.out.mono ?_);rintro e w1 ⟨rfl,rfl⟩;clear WE;go_wp2;go_loopw [1] (fun nv wr=>∃ (m:Nat) (s':List UInt8),nv=.int .i64 ((m:Nat):Int)∧m<=4611686018427387904∧Hid (xA wr S b s'∧s'++zW m=s++zW n∧Chg S w wr)) (fun nv _=>(intOf nv).toNat)
 case atStart=>exact ⟨n,s,rfl,hn,zf ⟨H.out,rfl,Chg.refl _ _⟩⟩
 case round=>
  obtain ⟨m,s',rfl,hm,HI⟩:=hrel
  have hl:s'.length<=100009:=by
   have:=congrArg List.length HI.out.2.1;rw [zlC,zlC] at this;omega
  obtain ⟨v,h1,h2,h3⟩:=HI.out.1.row;have OS:=zf h3;have HSW:=zf (fun k (hk:wr.heap.size<=k)=>HS.out k (Nat.le_trans HI.out.2.2.size hk));have hbase:=HI.out.1.base;have EQ:=zf HI.out.2.1;have KC:=zf HI.out.2.2;have OB:=zf h1;have OR:=zf h2;obtain ⟨va,vc,rfl⟩:=zl h2;have c1:=zg (o:=1) h1 rfl;clear h1 h2 h3 HI;by_cases hlt:128<=m
  ·have g3:decide (128<=(m:Int))=true:=zlx (by omega)
   have g4:decide ((m:Int) < 128)=false:=zly (by omega);have ob:=zgJ (m:=m);go_wp2_with (at_builtin;refine zK rfl (.tmp 25) (.tmp 29) 23 rfl 5 1 1 Tryz.underlying23 Tryz.elemByte 0 _ s'.length (zE s') rfl ?a1 wr.heap.size [.int .u8 ((m:Int) % 128+128)] 5 (0,0) rfl ?a2 rfl ?a3 ?a4 ?a5 ?a6 ?a7)
   case a1=>exact zo OR.out (zi (fun _=>False) _ _) (fun _ _ e=>e)
   case a2=>exact zh _ _
   case a3=>intro u hu;simp at hu;subst hu;rfl
   case a4=>omega
   case a5=>unfold maxLen;omega
   case a6=>exact Nat.zero_le _
   intro v5 w5 o5 g5 sn;obtain ⟨a5,c5,rfl⟩:=zl o5;have ka:=zi S wr (.cells #[.int .u8 ((m:Int) % 128+128)] 5);have kf:=zi (fun _=>False) wr (.cells #[.int .u8 ((m:Int) % 128+128)] 5)
   have o5b:w5.ownsRow 0 5 1 (.slice a5 (s'.length+1) c5) (s'++[UInt8.ofNat (m % 128+128)]).length (zE (s'++[UInt8.ofNat (m % 128+128)])):=by
    have e:Value.int .u8 ((m:Int) % 128+128)=yL (UInt8.ofNat (m % 128+128)):=ZR _ _ (by omega) (by omega);rw [e] at o5;unfold zE at *;rw [List.map_append,zlC];exact o5
   obtain ⟨h5,r1,r2⟩:=xo hbase (kf.obj (fun e=>e) OB.out) (zo OR.out kf (fun _ _ e=>e)) o5b (Chg.of_grown g5) OS.out (zfg sn OS.out (fun k hk=>HSW.out k (by rw [zlH] at hk;omega)));have R1:=zf r1;have R2:=zf (KC.out.trans (ka.trans r2));have q1:=zg (o:=1) h5 rfl;have f1:=zk (o:=1) h5
   have EQ2:=zf (show (s'++[UInt8.ofNat (m % 128+128)])++zW (m / 128)=s++zW n from by
    rw [<- EQ.out,Yh hlt];simp)
   clear h5 r1 r2 o5b o5 g5 ka kf OB OR KC EQ c1;go_wp2;go_roundw
   case rel=>exact ⟨m / 128,_,by simp,by omega,zf ⟨R1.out,EQ2.out,R2.out⟩⟩
   case measure=>simp [intOf];omega
  ·have g3:decide (128<=(m:Int))=false:=zly (by omega)
   have g4:decide ((m:Int) < 128)=true:=zlx (by omega);go_wp2_with (at_builtin;refine zK rfl (.tmp 39) (.tmp 42) 23 rfl 5 1 1 Tryz.underlying23 Tryz.elemByte 0 _ s'.length (zE s') rfl ?b1 wr.heap.size [.int .u8 (m:Int)] 5 (0,0) rfl ?b2 rfl ?b3 ?b4 ?b5 ?b6 ?b7)
   case b1=>exact zo OR.out (zi (fun _=>False) _ _) (fun _ _ e=>e)
   case b2=>exact zh _ _
   case b3=>intro u hu;simp at hu;subst hu;rfl
   case b4=>omega
   case b5=>unfold maxLen;omega
   case b6=>exact Nat.zero_le _
   intro v5 w5 o5 g5 sn;obtain ⟨a5,c5,rfl⟩:=zl o5;have ka:=zi S wr (.cells #[.int .u8 (m:Int)] 5);have kf:=zi (fun _=>False) wr (.cells #[.int .u8 (m:Int)] 5)
   have o5b:w5.ownsRow 0 5 1 (.slice a5 (s'.length+1) c5) (s'++[UInt8.ofNat m]).length (zE (s'++[UInt8.ofNat m])):=by
    have e:Value.int .u8 (m:Int)=yL (UInt8.ofNat m):=ZR _ _ (by omega) (by omega);rw [e] at o5;unfold zE at *;rw [List.map_append,zlC];exact o5
   obtain ⟨h5,r1,r2⟩:=xo hbase (kf.obj (fun e=>e) OB.out) (zo OR.out kf (fun _ _ e=>e)) o5b (Chg.of_grown g5) OS.out (zfg sn OS.out (fun k hk=>HSW.out k (by rw [zlH] at hk;omega)));have EQ2:s'++[UInt8.ofNat m]=s++zW n:=by rw [<- EQ.out,ZQ (by omega)]
   rw [EQ2] at r1;have R1:=zf r1;have R2:=zf (KC.out.trans (ka.trans r2));have q1:=zg (o:=1) h5 rfl;have f1:=zk (o:=1) h5;clear h5 r1 r2 o5b o5 g5 ka kf OB OR KC EQ c1 EQ2;go_wp2;go_end0;exact ⟨rfl,R1.out,R2.out⟩
set_option maxHeartbeats 2000000 in
set_option maxRecDepth 100000 in
theorem zgf (w:World) (S:Nat->Prop) (b:Nat) (s:List UInt8) (x:ByteArray) (h:xA w S b s) (hS:∀ k,w.heap.size<=k->S k) (hx:ZZ x.data.toList=true) (hs:s.length<=100000):
  Calls Tryz.prog 209 #[.pointer (some ⟨b,0,none⟩),.string x] w fun e w'=>e=.returned (.tuple #[])∧xA w' S b (s++ZX x)∧Chg S w w':=by
 have H:=zf h;have HS:=zf hS;have hxs:=(Zq hx).1;obtain ⟨_,_,hx8,_⟩:=(Zr _).1 hx;have hbase:=h.base;have MY:=xg w x (by unfold maxLen;omega);rw [hx] at MY;have MY:=zf MY;have WL:=zf (fun w=>yf w x (by unfold maxLen;omega));clear h;go_enter Tryz.func209,Tryz.ntmps209;go_wp2_with fail;(with_reducible refine MY.out.mono ?_);rintro e w1 ⟨rfl,k1⟩;have H1:=zf (H.out.chg k1 (fun _ _ e=>e));have K1:=zf (show Chg S w w1 from k1.mono (fun _ _ e=>e.elim));obtain ⟨v,h1,h2,h3⟩:=H1.out.row;have OS:=zf h3;have HSW:=zf (fun k (hk:w1.heap.size<=k)=>HS.out k (Nat.le_trans k1.size hk));have WE:=zf (Yf w1 b v h1);have OB:=zf h1;have OR:=zf h2;obtain ⟨va,vc,rfl⟩:=zl h2;have c1:=zg (o:=1) h1 rfl;clear h1 h2 h3 k1 MY H H1;go_wp2_with fail;(with_reducible refine WE.out.mono ?_);rintro e w2 ⟨rfl,rfl⟩;clear WE;go_wp2_with fail;refine Zf (N:=36) [.rd [0,1,2,3,4,5],.ef 6,.ef 7,.ef 8,.ef 9,.ef 10,.ef 11,.ef 12] 12 (fun W=>W.cell? ⟨b,1,none⟩=some (.slice va s.length vc)) (by kernel_rfl) (by kernel_rfl) (by kernel_rfl) (by kernel_rfl) (by kernel_rfl) (Nat.le_of_ble_eq_true rfl) c1 ?_;refine Yg (A:=?A1) ?h1 ?h2
 case h1=>
  rintro w' z0 K hK;simp only [zS,zls,zlt,zlu,zlv,zlw]
  repeat still_step
  refine wpStill_nil ?_;exact hK
 have HSD:=zf (show ∀ k,w1.drew.heap.size<=k->S k from HSW.out);have d0:w1.drew.cell? ⟨b,1,none⟩=some (.slice va s.length vc):=c1;have OBD:=zf ((zy (fun _=>False) w1).obj (fun e=>e) OB.out);have ORD:=zf (zo OR.out (zy (fun _=>False) w1) (fun _ _ e=>e));have KD:=zf (K1.out.drew);clear c1 OB OR K1;generalize w1.drew=wd at *;have WL1:=zf (WL.out wd);refine zG rfl ?_;go_wp2_with fail;(with_reducible refine WL1.out.mono ?_);rintro e w2 ⟨rfl,rfl⟩;go_wp2_with fail;refine ⟨.inr d0,?_⟩;refine zG rfl ?_;go_wp2_with fail;refine ⟨.inr d0,?_⟩;refine zG rfl ?_;go_wp2_with fail;have kf:=zi (fun _=>False) wd (.cells #[.int .u8 ((zI x.data.toList:Nat):Int)] 5);have ka:=zi S wd (.cells #[.int .u8 ((zI x.data.toList:Nat):Int)] 5);refine ⟨.inr (zj kf (fun e=>e) d0),?_⟩;refine zG rfl ?_;refine zK rfl (.tmp 19) (.tmp 23) 23 rfl 5 1 1 Tryz.underlying23 Tryz.elemByte 0 _ s.length (zE s) rfl (zo ORD.out kf (fun _ _ e=>e)) wd.heap.size [.int .u8 ((zI x.data.toList:Nat):Int)] 5 (0,0) rfl (zh _ _) rfl (by intro u hu;simp at hu;subst hu;rfl) (by omega) (by unfold maxLen;omega) (Nat.zero_le _) ?_;intro v5 w5 o5 g5 sn;obtain ⟨a5,c5,rfl⟩:=zl o5
 have o5b:w5.ownsRow 0 5 1 (.slice a5 (s.length+1) c5) (s++[UInt8.ofNat (zI x.data.toList)]).length (zE (s++[UInt8.ofNat (zI x.data.toList)])):=by
  have e:Value.int .u8 ((zI x.data.toList:Nat):Int)=yL (UInt8.ofNat (zI x.data.toList)):=ZR _ _ (by omega) rfl;rw [e] at o5;rw [ZK,zlC];exact o5
 obtain ⟨h5,r1,r2⟩:=xo hbase (kf.obj (fun e=>e) OBD.out) (zo ORD.out kf (fun _ _ e=>e)) o5b (Chg.of_grown g5) OS.out (zfg sn OS.out (fun k hk=>HSD.out k (by rw [zlH] at hk;omega)));have q1:=zg (o:=1) h5 rfl;have f1:=zk (o:=1) h5;have R1:=zf r1;have R2:=zf (KD.out.trans (ka.trans r2));have HS7:=zf (fun k (hk:(w5.setCell ⟨b,1,none⟩ (.slice a5 (s.length+1) c5)).heap.size<=k)=>HSD.out k (Nat.le_trans (ka.trans r2).size hk));clear h5 r1 r2 o5b o5 g5 ka kf OBD ORD KD d0 WL1 WL;go_wp2_with fail;refine ⟨.inr q1,?_⟩;refine zG rfl ?_;go_wp2_with fail;refine ⟨.inr q1,?_⟩;refine zG rfl ?_;go_wp2_with fail;refine ⟨.inr q1,?_⟩;refine zG rfl ?_;refine Zw rfl 23 (.tmp 26) (.tmp 24) rfl b 1 rfl (.slice a5 (s.length+1) c5) rfl rfl rfl Tryz.sizeBytes _ q1 f1 ?_;intro w7 hw7;rw [<- hw7] at R1 R2 HS7;refine ⟨.inl rfl,ZM ?_⟩;clear hw7 q1 f1;obtain ⟨v8,h1,h2,h3⟩:=R1.out.row;have OS8:=zf h3;have OB:=zf h1;have OR:=zf h2;obtain ⟨va,vc,rfl⟩:=zl h2;have c1:=zg (o:=1) h1 rfl;have hl9:(s++[UInt8.ofNat (zI x.data.toList)]).length<=100001:=by simp;omega
 clear h1 h2 h3 R1;generalize hsl:s++[UInt8.ofNat (zI x.data.toList)]=s1 at *;have HSL:=zf hsl;clear hsl;go_wp2_with (at_builtin;refine yW rfl (.tmp 31) (.tmp 32) 23 29 rfl 5 Tryz.underlying23 Tryz.underlying29 Tryz.infoByte 0 _ s1.length (zE s1) rfl OR.out x rfl ?e1 ?e2 ?e3)
 case e1=>omega
 case e2=>omega
 intro v9 w9 o9 g9 sn9;obtain ⟨a9,c9,rfl⟩:=zl o9
 have o9b:w9.ownsRow 0 5 1 (.slice a9 (s1.length+x.size) c9) (s1++x.data.toList).length (zE (s1++x.data.toList)):=by
  rw [ZK,zlC,zz];exact o9
 obtain ⟨h9,r1,r2⟩:=xo hbase OB.out OR.out o9b (Chg.of_grown g9) OS8.out (zfg sn9 OS8.out HS7.out);have EQ:s1++x.data.toList=s++ZX x:=by rw [<- HSL.out];unfold ZX;simp
 rw [EQ] at r1;have R3:=zf r1;have R4:=zf (R2.out.trans r2);have q1:=zg (o:=1) h9 rfl;have f1:=zk (o:=1) h9;clear h9 r1 r2 o9b o9 g9 OB OR R2 c1 EQ HSL;go_wp2;go_end0;exact ⟨rfl,R3.out,R4.out⟩
set_option maxHeartbeats 2000000 in
set_option maxRecDepth 100000 in
theorem zhR (w:World) (S:Nat->Prop) (b:Nat) (s:List UInt8) (l:List ByteArray) (a:Option Addr) (n c:Nat) (G:Nat->Prop) (h:xA w S b s) (hS:∀ k,w.heap.size<=k->S k) (hv:zV w (.slice a n c) G l) (hG:∀ k,G k->¬ S k) (hl:xw l=true) (hs:s.length<=90000):
  Calls Tryz.prog 132 #[.pointer (some ⟨b,0,none⟩),.slice a n c] w fun e w'=>e=.returned (.tuple #[])∧xA w' S b (s++xK l)∧Chg S w w':=by
 have H:=zf h;have HS:=zf hS;have HV:=zf hv
 have l16:l.length<=16:=by
  obtain ⟨_,q,_⟩:=of_decide_eq_true hl;rwa [zU] at q
 have MAY:=zf (show ∀ x∈l,ZZ x.data.toList=true from fun x hx=>Zm hl hx);have hbase:=h.base;have SM:=Yt w _ G l hv;rw [hl] at SM;have SM:=zf SM;obtain ⟨_,_,e,hl0,_⟩:=hv;cases e;clear h hl;unfold maxLen at hl0;go_enter Tryz.func132,Tryz.ntmps132;go_wp2_with fail;(with_reducible refine SM.out.mono ?_);rintro e w1 ⟨rfl,d1⟩;have k1:Chg (fun _=>False) w w1:=d1.chg;have H1:=zf (H.out.chg k1 (fun _ _ e=>e));have K1:=zf (show Chg S w w1 from k1.mono (fun _ _ e=>e.elim));obtain ⟨v,h1,h2,h3⟩:=H1.out.row;have OS:=zf h3;have HSW:=zf (fun k (hk:w1.heap.size<=k)=>HS.out k (Nat.le_trans k1.size hk));have WE:=zf (Yf w1 b v h1);have OB:=zf h1;have OR:=zf h2;obtain ⟨va,vc,rfl⟩:=zl h2;have c1:=zg (o:=1) h1 rfl;clear h1 h2 h3 k1 d1 SM H H1;go_wp2_with fail;(with_reducible refine WE.out.mono ?_);rintro e w2 ⟨rfl,rfl⟩;clear WE;go_wp2_with (at_builtin;refine zK rfl (.tmp 22) (.tmp 26) 23 rfl 5 1 1 Tryz.underlying23 Tryz.elemByte 0 _ s.length (zE s) rfl ?a1 w1.heap.size [.int .u8 (l.length:Int)] 5 (0,0) rfl ?a2 rfl ?a3 ?a4 ?a5 ?a6 ?a7)
 case a1=>exact zo OR.out (zi (fun _=>False) _ _) (fun _ _ e=>e)
 case a2=>exact zh _ _
 case a3=>intro u hu;simp at hu;subst hu;rfl
 case a4=>omega
 case a5=>unfold maxLen;omega
 case a6=>exact Nat.zero_le _
 intro v5 w5 o5 g5 sn;obtain ⟨a5,c5,rfl⟩:=zl o5;have ka:=zi S w1 (.cells #[.int .u8 (l.length:Int)] 5);have kf:=zi (fun _=>False) w1 (.cells #[.int .u8 (l.length:Int)] 5)
 have o5b:w5.ownsRow 0 5 1 (.slice a5 (s.length+1) c5) (s++[UInt8.ofNat l.length]).length (zE (s++[UInt8.ofNat l.length])):=by
  have e:Value.int .u8 (l.length:Int)=yL (UInt8.ofNat l.length):=ZR _ _ (by omega) rfl;rw [e] at o5;rw [ZK,zlC];exact o5
 obtain ⟨h5,r1,r2⟩:=xo hbase (kf.obj (fun e=>e) OB.out) (zo OR.out kf (fun _ _ e=>e)) o5b (Chg.of_grown g5) OS.out (zfg sn OS.out (fun k hk=>HSW.out k (by rw [zlH] at hk;omega)));have q1:=zg (o:=1) h5 rfl;have f1:=zk (o:=1) h5;have R1:=zf r1;have R2:=zf (K1.out.trans (ka.trans r2));clear h5 r1 r2 o5b o5 g5 ka kf OB OR K1 c1;go_wp2;generalize w5.setCell ⟨b,1,none⟩ (.slice a5 (s.length+1) c5)=w6 at *;go_loopw [32] (fun iv wr=>∃ k:Nat,k<=l.length∧iv=.int .i64 k∧Hid (xA wr S b ((s++[UInt8.ofNat l.length])++Zh (l.take k))∧Chg S w wr)) (fun iv _=>l.length - (intOf iv).toNat)
 case atStart=>exact ⟨0,by omega,rfl,zf ⟨by simpa [Zh] using R1.out,R2.out⟩⟩
 case round=>
  obtain ⟨k,hk,rfl,HI⟩:=hrel;clear q1 f1;by_cases hlt:k < l.length
  ·obtain ⟨x,hx⟩:∃ x,l[k]? = some x:=⟨_,zlz hlt⟩
   obtain ⟨_,_,e1,_,hcl⟩:=HV.out.chg HI.out.2 (fun k hk e=>hG k hk e);cases e1;obtain ⟨lb,lo,rfl,_,c0,_⟩:=hcl k x hx;have WW:=yS (l.take k) (fun y hy=>MAY.out y (List.mem_of_mem_take hy));rw [zlE] at WW;have OW:=zgf wr S b _ x HI.out.1 (fun k hk=>HS.out k (Nat.le_trans HI.out.2.size hk)) (MAY.out x (zlB hx)) (by rw [zlC,zlC];simp;omega);rw [List.append_assoc,<- YD hx] at OW;have OW:=zf OW;have KI:=zf HI.out.2;clear hcl hx HI WW;go_wp2_with fail;(with_reducible refine OW.out.mono ?_);rintro e w7 ⟨rfl,h7,k7⟩;have H7:=zf h7;have K7:=zf (KI.out.trans k7);clear h7 k7 OW KI c0;go_wp2;go_roundw
   case rel=>exact ⟨k+1,by omega,by go_num,zf ⟨H7.out,K7.out⟩⟩
   case measure=>simp [intOf];omega
  ·obtain rfl:k=l.length:=by omega
   have FIN:=zf (show xA wr S b (s++xK l) from by
    have:=HI.out.1;rw [zlT] at this;unfold xK;rw [List.append_assoc] at this;exact this)
   have KI:=zf HI.out.2;clear HI;go_wp2;go_end0;exact ⟨rfl,FIN.out,KI.out⟩
theorem zgi (w:World) (S:Nat->Prop) (b:Nat) (s:List UInt8) (z:Int) (h:xA w S b s) (hS:∀ k,w.heap.size<=k->S k) (h0:0<=z) (hn:z<=4611686018427387904) (hs:s.length<=100000):
  Calls Tryz.prog 131 #[.pointer (some ⟨b,0,none⟩),.int .i64 z] w fun e w'=>e=.returned (.tuple #[])∧xA w' S b (s++zW z.toNat)∧Chg S w w':=by
 have:=xj w S b s z.toNat h hS (by omega) hs;rwa [show ((z.toNat:Nat):Int)=z from by omega] at this
def yh:Value->Nat
 | .slice _ n _=>n
 | _=>0
def zjI (l:List ByteArray):Prop:=∀ x∈l,x.size<=140737488355328
def Yq (s:ByteArray):Int:=if zI s.data.toList=1 then ((zL s.data.toList 0 / 8192:Nat):Int) else -1
def zgv (kind:Int) (len:Nat) (who:Int) (n k0 kl a0 sg:Nat) (d:Bool):Bool:=
 if kind=1 then decide (len=1) && (decide (who=1) && (decide (n=2) && (decide (k0=3) && decide (kl=5))))
 else if kind=2 then decide (len=1) && (decide (who=1) && (decide (n=1) && decide (a0=sg)))
 else if kind=3 then decide (len=1) && decide (who=2)
 else if kind=4 then decide (len=1) && (decide (who=3) && (decide (n=1) && decide (kl=4)))
 else if kind=5 then decide (len=1) && ((decide (who=1) || decide (who=2)) && (decide (1 < n) && decide (kl=5)))
 else if kind=7 then d else true
theorem zcO {w:World} {e:TypeId} {z:Value} {size n m gc:Nat} {xs news:List Value} (hz:z.cells.size=size) (hlx:xs.length=n*size) (hln:news.length=m*size) (hge:n+m<=gc) (hcm:gc<=maxLen):
  (w.drew.alloc (.cells (xs.toArray++news.toArray++Builtin.zeroCells z.cells (gc - (n+m))) e)).ownsRow w.heap.size e size (.slice (some ⟨w.heap.size,0,none⟩) (n+m) gc) (n+m) (xs++news):=by
 refine ⟨by rw [zlC,hlx,hln,Nat.add_mul],.inr ⟨w.heap.size,gc,_,rfl,zlS _,heap_alloc_new w.drew _,hge,hcm,?_,?_⟩⟩
 ·simp only [Array.size_append,List.size_toArray,size_zeroCells,hz,hlx,hln,<- Nat.add_mul]
  congr 1;omega
 ·simp only [Array.toList_append]
  rw [List.take_left' (by rw [zlC,hlx,hln,Nat.add_mul])]
theorem zcr {P:Program} {w:World} {ops:Array Oper} {rest:List Oper} {o:Oper} {a:Act} {Q:Exit->Act->World->Prop} (hgd:o.guard=none) (s x:Operand) (t:TypeId)
  (ho:o.op=.call { callee:=.builtin .append,args:=#[s,x],argTypes:=#[t,t] }) (e:TypeId) (size bytes:Nat) (ht:P.underlying t=some (.slice e)) (hE:Zc P e size bytes)
  (sa:Option Addr) (n:Nat) (xs:List Value) (hs:a.eval s=.slice sa n n) (hlx:xs.length=n*size) (hcx:∀ (j:Nat) u,xs[j]? = some u->∃ g o,sa=some ⟨g,o,none⟩∧w.cell? ⟨g,o+j,none⟩=some u) (hnil:sa=none->n=0)
  (g go m c:Nat) (news:List Value) (hx:a.eval x=.slice (some ⟨g,go,none⟩) m c) (hl:news.length=m*size) (hcn:∀ (j:Nat) u,news[j]? = some u->w.cell? ⟨g,go+j,none⟩=some u) (hm:0 < m)
  (h1:∀ u∈xs++news,u.oneCell'=true) (hbytes:(n+m)*bytes<=140737488355328) (h63:n+m<=maxLen)
  (h:∀ v' w',w'.ownsRow w.heap.size e size v' (n+m) (xs++news)->Chg (fun _=>False) w w'->w.heap.size < w'.heap.size->wpList P ops Q rest (a.put o.dst v') w'):wpList P ops Q (o :: rest) a w:=by
 obtain ⟨i,z,hi,hz,q1,q2,q3,q4⟩:=hE;refine wpList_plain hgd fun K hK=>?_;have hnews:∀ j u,news[j]? = some u->w.cell? ((⟨g,go,none⟩:Addr).add j)=some u:=fun j u hj=>by rw [yj];exact hcn j u hj
 suffices hr:∃ v' w',(Builtin.append_ #[t,t] o.type #[.slice sa n n,.slice (some ⟨g,go,none⟩) m c]).run P w=.ok v' w'∧w'.ownsRow w.heap.size e size v' (n+m) (xs++news)∧Chg (fun _=>False) w w'∧w.heap.size < w'.heap.size by
  obtain ⟨v',w',hr,h2,h3,h4⟩:=hr;unfold Oper.wp execOp;simp only [ho,resolve,invoke,builtin,Sem.run_bind,Sem.run_pure,Result.andThen_ok,List.map_toArray,List.map_cons,List.map_nil,hs,hx,hr];exact hK _ _ (h v' w' h2 h3 h4)
 have hge:=grownCap_ge w (n+m) n e;have hcm:=grownCap_le_maxLen w (n+m) n e h63;have hchg:∀ cs,Chg (fun _=>False) w (w.drew.alloc (.cells cs e)):=fun cs=>((Chg.refl _ w).drew).alloc _;cases sa with
 | none=>
  obtain rfl:=hnil rfl;obtain rfl:xs=[]:=List.eq_nil_of_length_eq_zero (by simpa using hlx);simp only [Nat.zero_add] at hge hcm h63 hbytes ⊢;have hr:=run_append_nil (P:=P) w t o.type e i z ht hi hz ⟨g,go,none⟩ m c news (by rw [q1];exact hl) hnews hm (by simp only [maxLen] at h63;omega) (by rw [q2];omega);refine ⟨_,_,hr,?_,hchg _,by simp⟩;have:=zcO (w:=w) (e:=e) (z:=z) (size:=size) (n:=0) (m:=m) (gc:=grownCap w m 0 e) (xs:=[]) (news:=news) q3 (by simp) hl (by simpa using hge) (by simpa using hcm)
  simpa using this
 | some ad=>
  have holds:∀ j u,xs[j]? = some u->w.cell? (ad.add j)=some u:=fun j u hj=>by
   obtain ⟨g',o',e1,c1⟩:=hcx j u hj;cases e1;rw [yj];exact c1
  have hr:=run_append_grow (P:=P) w t o.type e i z ht hi hz ad n n xs (by rw [q1];exact hlx) holds ⟨g,go,none⟩ m c news (by rw [q1];exact hl) hnews (by omega) (by simp only [maxLen] at h63;omega) (growslice_fits (by omega) (by rw [q2];exact hbytes));exact ⟨_,_,hr,zcO q3 hlx hl hge hcm,hchg _,by simp⟩
def ZB (E:List (Int × Value)):List Value:=E.flatMap fun e=>[.int .i64 e.1,e.2]
theorem Xp (E F:List (Int × Value)):ZB (E++F)=ZB E++ZB F:=by unfold ZB;rw [List.flatMap_append]
theorem YN (E:List (Int × Value)):(ZB E).length=E.length*2:=by
 unfold ZB;induction E with
 | nil=>rfl
 | cons a t ih=>rw [List.flatMap_cons,zlC,ih];simp;omega
theorem XA:∀ (E:List (Int × Value)) (k:Nat) r,E[k]? = some r->(ZB E)[k*2]? = some (.int .i64 r.1)∧(ZB E)[k*2+1]? = some r.2
 | [],k,r,h=>by simp at h
 | a :: t,0,r,h=>by
  simp at h;subst h;unfold ZB;rw [List.flatMap_cons];exact ⟨rfl,rfl⟩
 | a :: t,k+1,r,h=>by
  obtain ⟨h1,h2⟩:=XA t k r (by simpa using h);have e:ZB (a :: t)=[.int .i64 a.1,a.2]++ZB t:=by unfold ZB;rw [List.flatMap_cons]
  rw [e];refine ⟨?_,?_⟩
  ·rw [List.getElem?_append_right (by simp;omega)];simpa [show (k+1)*2 - 2=k*2 by omega] using h1
  ·rw [List.getElem?_append_right (by simp;omega)];simpa [show (k+1)*2+1 - 2=k*2+1 by omega] using h2
theorem zhe {E:List (Int × Value)} {j:Nat} {u:Value} (h:(ZB E)[j]? = some u):∃ k r,E[k]? = some r∧(j=k*2∧u=.int .i64 r.1∨j=k*2+1∧u=r.2):=by
 have hl:=(zlA.1 h).1;rw [YN] at hl;have hk:j / 2 < E.length:=by omega
 refine ⟨j / 2,E[j / 2],zlz hk,?_⟩;obtain ⟨h1,h2⟩:=XA E (j / 2) _ (zlz hk);rcases Nat.mod_two_eq_zero_or_one j with q | q
 ·rw [show j / 2*2=j by omega,h] at h1
  exact .inl ⟨by omega,Option.some.inj h1⟩
 ·rw [show j / 2*2+1=j by omega,h] at h2
  exact .inr ⟨by omega,Option.some.inj h2⟩
theorem zfU {E:List (Int × Value)} (h:∀ e∈E,e.2.oneCell'=true):∀ v∈ZB E,v.oneCell'=true:=by
 intro v hv;unfold ZB at hv;rw [List.mem_flatMap] at hv;obtain ⟨r,hr,h2⟩:=hv;simp at h2;rcases h2 with rfl | rfl
 ·rfl
 ·exact h r hr
abbrev ZE:=Int × List ByteArray
structure zdn (w:World) (G:Nat->Prop) (E:List (Int × Value)) (L:List ZE):Prop where
 len:E.length=L.length
 ent:∀ (j:Nat) e x,E[j]? = some e->L[j]? = some x->e.1=x.1∧yR w e.2 G x.2
theorem zdn.one {w:World} {G:Nat->Prop} {E:List (Int × Value)} {L:List ZE} (h:zdn w G E L):∀ e∈E,e.2.oneCell'=true:=by
 intro e he;obtain ⟨j,hj⟩:=List.mem_iff_getElem?.1 he;have hl:=(zlA.1 hj).1;obtain ⟨_,q⟩:=h.ent j e _ hj (zlz (by rw [<- h.len];exact hl));obtain ⟨a,c,e2⟩:=q.shape;rw [e2];rfl
theorem zdn.chg {S:Nat->Prop} {w w':World} {G:Nat->Prop} {E:List (Int × Value)} {L:List ZE} (h:zdn w G E L) (hc:Chg S w w') (hs:∀ k,G k->¬ S k):zdn w' G E L:=
 ⟨h.len,fun j e x h1 h2=>⟨(h.ent j e x h1 h2).1,(h.ent j e x h1 h2).2.chg hc hs⟩⟩
theorem zdn.up {w:World} {G G':Nat->Prop} {E:List (Int × Value)} {L:List ZE} (h:zdn w G E L) (hg:∀ k,G k->G' k):zdn w G' E L:=
 ⟨h.len,fun j e x h1 h2=>⟨(h.ent j e x h1 h2).1,(h.ent j e x h1 h2).2.up hg⟩⟩
theorem zdn.snoc {w:World} {G:Nat->Prop} {E:List (Int × Value)} {L:List ZE} (h:zdn w G E L) {e:Int × Value} {x:ZE} (h1:e.1=x.1) (h2:yR w e.2 G x.2):zdn w G (E++[e]) (L++[x]):=by
 refine ⟨by simp [h.len],fun j e' x' q1 q2=>?_⟩;rcases Nat.lt_or_ge j E.length with q | q
 ·rw [List.getElem?_append_left q] at q1
  rw [List.getElem?_append_left (by rw [<- h.len];exact q)] at q2;exact h.ent j e' x' q1 q2
 ·rw [List.getElem?_append_right q] at q1
  rw [List.getElem?_append_right (by rw [<- h.len];exact q)] at q2
  have hj:j - E.length=0:=by
   have:=(zlA.1 q1).1;simp at this;omega
  rw [hj] at q1;rw [<- h.len,hj] at q2;simp at q1 q2;subst q1 q2;exact ⟨h1,h2⟩
def ZG (w:World) (v:Value) (G:Nat->Prop) (L:List ZE):Prop:=
 ∃ E la cap,v=.slice la L.length cap∧L.length<=cap∧cap<=maxLen∧(la=none->cap=0)∧zdn w G E L ∧
  ∀ (j:Nat) u,(ZB E)[j]? = some u->∃ lb lo,la=some ⟨lb,lo,none⟩∧G lb∧w.cell? ⟨lb,lo+j,none⟩=some u
theorem ZG.chg {S:Nat->Prop} {w w':World} {v:Value} {G:Nat->Prop} {L:List ZE} (h:ZG w v G L) (hc:Chg S w w') (hs:∀ k,G k->¬ S k):ZG w' v G L:=by
 obtain ⟨E,la,cap,h1,h2,h3,h4,h5,h6⟩:=h;exact ⟨E,la,cap,h1,h2,h3,h4,h5.chg hc hs,fun j u hj=>by obtain ⟨lb,lo,q1,q2,q3⟩:=h6 j u hj;exact ⟨lb,lo,q1,q2,zj hc (hs lb q2) q3⟩⟩
theorem ZG.up {w:World} {v:Value} {G G':Nat->Prop} {L:List ZE} (h:ZG w v G L) (hg:∀ k,G k->G' k):ZG w v G' L:=by
 obtain ⟨E,la,cap,h1,h2,h3,h4,h5,h6⟩:=h;exact ⟨E,la,cap,h1,h2,h3,h4,h5.up hg,fun j u hj=>by obtain ⟨lb,lo,q1,q2,q3⟩:=h6 j u hj;exact ⟨lb,lo,q1,hg _ q2,q3⟩⟩
theorem ZG.get {w:World} {la:Option Addr} {n cap:Nat} {G:Nat->Prop} {L:List ZE} (h:ZG w (.slice la n cap) G L) {j:Nat} {x:ZE} (hj:L[j]? = some x):
  ∃ g o sa sc,la=some ⟨g,o,none⟩∧G g∧w.cell? ⟨g,o+j*2,none⟩=some (.int .i64 x.1)∧w.cell? ⟨g,o+j*2+1,none⟩=some (.slice sa x.2.length sc)∧yR w (.slice sa x.2.length sc) G x.2:=by
 obtain ⟨E,la',cap',e,_,_,_,h5,h6⟩:=h;cases e;have hl:=(zlA.1 hj).1;obtain ⟨e,he⟩:∃ e,E[j]? = some e:=⟨_,zlz (by rw [h5.len];exact hl)⟩;obtain ⟨q1,q2⟩:=h5.ent j e x he hj;obtain ⟨c1,c2⟩:=XA E j e he;obtain ⟨g,o,e1,hg,d1⟩:=h6 _ _ c1;obtain ⟨g',o',e2,_,d2⟩:=h6 _ _ c2;cases e1;cases e2;obtain ⟨sa,sc,e3⟩:=q2.shape;rw [e3] at d2 q2;rw [q1] at d1;exact ⟨g,o,sa,sc,rfl,hg,d1,by rw [Nat.add_assoc];exact d2,q2⟩
theorem ZG.shape {w:World} {v:Value} {G:Nat->Prop} {L:List ZE} (h:ZG w v G L):∃ la cap,v=.slice la L.length cap∧L.length<=cap∧cap<=maxLen:=by
 obtain ⟨E,la,cap,h1,h2,h3,_⟩:=h;exact ⟨la,cap,h1,h2,h3⟩
theorem zby (w:World) (G:Nat->Prop):ZG w (.slice none 0 0) G []:=
 ⟨[],none,0,rfl,zlS _,by unfold maxLen;omega,fun _=>rfl,⟨rfl,fun j e x h=>by simp at h⟩,fun j u h=>by simp [ZB] at h⟩
theorem zbx {w:World} {base:Nat} {v:Value} {G:Nat->Prop} {E:List (Int × Value)} {L:List ZE} (h:w.ownsRow base 34 2 v E.length (ZB E)) (hE:zdn w G E L) (hG:∀ k,v.ownBlock=some k->G k):ZG w v G L:=by
 have h0:=h;obtain ⟨h1,⟨rfl,h2⟩ | ⟨g,cap,cur,rfl,hg,hh,q1,q2,q3,q4⟩⟩:=h
 ·have hn:L=[]:=List.eq_nil_of_length_eq_zero (by rw [<- hE.len,h2])
  subst hn;exact zby w G
 ·refine ⟨E,_,cap,by rw [hE.len],by rw [<- hE.len];exact q1,q2,(fun e=>by cases e),hE,fun j u hj=>⟨g,0,rfl,hG g rfl,?_⟩⟩
  have hj':=(zlA.1 hj).1;rw [YN] at hj';rw [Nat.zero_add,h0.cellAt (j:=j) (by omega)];exact hj
theorem Tryz.elemEntry:Zc Tryz.prog 34 2 32:=zX (z:=.agg #[.int .i64 0,.slice none 0 0]) (by kernel_rfl) rfl (by decide)
def zhJ (x:ZE):Prop:=(0<=x.1∧x.1 < 8)∧xw x.2=true
instance (x:ZE):Decidable (zhJ x):=by unfold zhJ;infer_instance
def zec (x:ZE):Bool:=decide (zhJ x)
theorem Yj {x:ZE}:zec x=true↔(0<=x.1∧x.1 < 8)∧xw x.2=true:=zlJ
theorem xY {l:List ByteArray} (h:xw l=true):1<=l.length∧l.length<=16:=by
 have h:=of_decide_eq_true h;have h1:=h.1;have h2:=h.2.1;rw [zcY] at h1 h2;exact ⟨h1,h2⟩
def zam (x:ZE) (L:List ZE):Int:=if zec x=true then (if x∈L then 11 else if 12<=L.length then 3 else 0) else 2
def zhy (x:ZE) (L:List ZE):List ZE:=if zam x L=0 then L++[x] else L
structure LOk (L:List ZE):Prop where
 nodup:L.Nodup
 may:∀ x∈L,zec x=true
 few:L.length<=12
theorem zhz {x:ZE} {L:List ZE} (h:zam x L=0):zec x=true∧x ∉ L∧L.length < 12:=by
 unfold zam at h;by_cases h1:zec x=true
 ·rw [if_pos h1] at h
  by_cases h2:x∈L
  ·rw [if_pos h2] at h;simp at h
  ·rw [if_neg h2] at h
   by_cases h3:12<=L.length
   ·rw [if_pos h3] at h;simp at h
   ·exact ⟨h1,h2,by omega⟩
 ·rw [if_neg h1] at h;simp at h
def za3:List ZE->List ZE->Int
 | _,[]=>0
 | L,x :: r=>if zam x L=0 then za3 (L++[x]) r else zam x L
theorem zcT {l:List ZE} {k:Nat} {x:ZE} (hx:l[k]? = some x):za3 (l.take k) (l.drop k)=if zam x (l.take k)=0 then za3 (l.take (k+1)) (l.drop (k+1)) else zam x (l.take k):=by
 have hl:=(zlA.1 hx).1;rw [List.drop_eq_getElem_cons hl,za3,(zlA.1 hx).2,zlR,hx];rfl

theorem YX {n:Nat} (h:n<=4611686018427387904):1<=(zW n).length∧(zW n).length<=9:=⟨yd n,Zl 8 n (by omega)⟩
def zc8 (x:ZE):List UInt8:=zW x.1.toNat++xK x.2
structure Yr where
  val:Int
  ver:Int
  ents:List ZE
structure zcn where
  boot:Int
  objs:List Yr
def zcm (o:Yr):List UInt8:=zW o.val.toNat++(zW o.ver.toNat++(zW o.ents.length++o.ents.flatMap zc8))
def YI (r:zcn):List UInt8:=zW r.boot.toNat++(zW r.objs.length++r.objs.flatMap zcm)
def xL (n:Int):Bool:=decide (0<=n) && decide (n<=4611686018427387904)
def zaE (o:Yr):Bool:=xL o.val && (xL o.ver && decide (za3 [] o.ents=0))
def xF (r:zcn):Bool:=decide (0<=r.boot) && (decide (r.boot<=40) && (decide (r.objs.length<=4) && r.objs.all zaE))
theorem zg1 {n:Int}:xL n=true↔0<=n∧n<=4611686018427387904:=by unfold xL;simp
theorem zaj {o:Yr}:zaE o=true↔(0<=o.val∧o.val<=4611686018427387904)∧(0<=o.ver∧o.ver<=4611686018427387904)∧za3 [] o.ents=0:=by unfold zaE;simp [zg1]
theorem yE {r:zcn}:xF r=true↔0<=r.boot∧r.boot<=40∧r.objs.length<=4∧∀ o∈r.objs,zaE o=true:=by unfold xF;simp
theorem zcS:∀ (r L:List ZE),za3 L r=0->L.length<=12->(∀ x∈r,zec x=true)∧L.length+r.length<=12
 | [],L,_,h=>⟨fun x hx=>(by cases hx),by simpa using h⟩
 | x :: r,L,h,hl=>by
  have h:(if zam x L=0 then za3 (L++[x]) r else zam x L)=0:=h;by_cases h0:zam x L=0
  ·rw [if_pos h0] at h
   obtain ⟨h1,h2,h3⟩:=zhz h0;obtain ⟨h4,h5⟩:=zcS r (L++[x]) h (by simp;omega);refine ⟨fun y hy=>?_,by simp at h5 ⊢;omega⟩;rcases List.mem_cons.1 hy with rfl | hy
   ·exact h1
   ·exact h4 y hy
  ·rw [if_neg h0] at h;exact absurd h h0
theorem Yv {o:Yr} (h:zaE o=true):(∀ x∈o.ents,zec x=true)∧o.ents.length<=12:=by
 obtain ⟨h1,h2⟩:=zcS o.ents [] (zaj.1 h).2.2 (by simp);exact ⟨h1,by simpa using h2⟩
theorem zh7 {a b i:Nat} (h:a < 2 ^ i):a ||| (b <<< i)=a+b*2 ^ i:=by
 rw [Nat.or_comm,<- Nat.shiftLeft_add_eq_or_of_lt h,Nat.shiftLeft_eq,Nat.add_comm]
theorem zdN (k:Nat):128 ^ k=2 ^ (7*k):=by rw [Nat.pow_mul]
theorem zeI (n k:Nat):n % 128 ^ k+n / 128 ^ k % 128*128 ^ k=n % 128 ^ (k+1):=by
 rw [Nat.pow_succ,Nat.mod_mul];rw [Nat.mul_comm]
structure zk2 (R:List za6) (b:Int) (s:ByteArray) (L:List ByteArray):Prop where
 err:zez R s b=0
 mem:∀ t:ByteArray,t∈L↔Reach (R.map zkF) s.data.toList t.data.toList
def zku (c:zF):List za6:=c.fr.map fun w=>(w,c.sp)
def zkv (R:List za6) (b:Int) (t:ByteArray):List ByteArray->Bool × Int
 | []=>(true,0)
 | w :: l=>if zez R w b=0 then (if zkK R w t b=true then zkv R b t l else (false,0)) else (false,zez R w b)
def zkw (R:List za6) (b:Int) (c:zF):Bool × Int:=zkv R b (ZL c.sg) c.fr
structure ASt where
 order:List Nat
 rules:List za6
def zgq (C:List zF) (l:List Nat):List za6:=l.flatMap fun i=>match C[i]? with
 | some c=>zku c
 | none=>[]
structure zll (R:List za6) (C:List zF) (b:Int) (s:ASt):Prop where
 nd:s.order.Nodup
 lt:∀ i∈s.order,i < C.length
 rules:s.rules=R++zgq C s.order
 just:∀ (k:Nat) i c,s.order[k]? = some i->C[i]? = some c->zkw (R++zgq C (s.order.take k)) b c=(true,0)
structure zlr (R:List za6) (C:List zF) (b:Int) (s:ASt):Prop where
 inv:zll R C b s
 full:∀ i c,C[i]? = some c->i ∉ s.order->zkw s.rules b c=(false,0)
def up (k j:Nat):Nat:=if j < k then j else j+1
structure zlm (k:Nat) (s t:ASt):Prop where
 rules:t.rules=s.rules
 order:s.order=t.order.map (up k)
structure zkD (w:World) (lk mS nS:Nat) (fS:Lit->Option Value) (C:Nat->Prop) (ra:Option Addr) (R:List za6) (rc:Nat) (b:Int) (G:Nat->Prop):Prop where
 own:w.heap[lk]? = some (.cells #[.slice ra R.length rc,.int .i64 b,.map (some mS)] 478 (0,0))
 map:yC Tryz.prog 29 w mS nS fS
 rules:zcj w (.slice ra R.length rc) G R
 few:(R.length<=400∧∀ r∈R,r.1.size<=400)∨(400 < R.length∧∀ x:ByteArray,fS (.string x.data.toList)=none)
 row:∀ (x:ByteArray) v,fS (.string x.data.toList)=some v->∃ n a L c,v=.agg #[.int .i64 ((n:Nat):Int),.slice a (L:List ByteArray).length c]∧n<=R.length∧(n=R.length∨R.length<=rc)∧zV w (.slice a L.length c) C L∧zk2 (R.take n) b x L∧∀ y∈L,y.size<=16
 typ:∀ k,C k->∃ cs,w.heap[k]? = some (.cells cs 29 (0,0))
 gb:∀ k,G k->k < w.heap.size∧k≠mS∧k≠lk
theorem Tryz.zeroLook (w:World):(zeroValue 513).run Tryz.prog w=.ok (.agg #[.int .i64 0,.slice none 0 0]) w:=by kernel_rfl
def yo (w:World) (v:Value) (G:Nat->Prop) (P:List (zF × Value)):Prop:=
 ∃ la cap,v=.slice la P.length cap∧P.length<=maxLen∧∀ (j:Nat) p,P[j]? = some p->∃ g o sa sc,la=some ⟨g,o,none⟩∧G g∧p.2=.slice sa p.1.fr.length sc∧w.cell? ⟨g,o+j*7,none⟩=some (.int .i64 p.1.kind) ∧
  w.cell? ⟨g,o+j*7+1,none⟩=some (.int .u16 (p.1.sg:Int))∧w.cell? ⟨g,o+j*7+2,none⟩=some (.string p.1.sp)∧w.cell? ⟨g,o+j*7+3,none⟩=some (.slice sa p.1.fr.length sc) ∧
  w.cell? ⟨g,o+j*7+4,none⟩=some (.int .i64 p.1.f)∧w.cell? ⟨g,o+j*7+5,none⟩=some (.int .i64 p.1.t)∧w.cell? ⟨g,o+j*7+6,none⟩=some (.int .i64 p.1.n)∧ZW w (.slice sa p.1.fr.length sc) G p.1
theorem yo.chg {S:Nat->Prop} {w w':World} {v:Value} {G:Nat->Prop} {P:List (zF × Value)} (h:yo w v G P) (hc:Chg S w w') (hs:∀ k,G k->¬ S k):yo w' v G P:=by
 obtain ⟨la,cap,h1,h2,h3⟩:=h
 exact ⟨la,cap,h1,h2,fun j x hj=>by
  obtain ⟨g,o,sa,sc,q1,q2,q3,q4,q5,q6,q7,q8,q9,q10,q11⟩:=h3 j x hj;have n:=hs g q2;exact ⟨g,o,sa,sc,q1,q2,q3,zj hc n q4,zj hc n q5,zj hc n q6,zj hc n q7,zj hc n q8,zj hc n q9,zj hc n q10,q11.chg hc hs⟩⟩
theorem ZW.up {w:World} {sv:Value} {G G':Nat->Prop} {c:zF} (h:ZW w sv G c) (hg:∀ k,G k->G' k):ZW w sv G' c:=⟨h.set.up hg,h.sp,h.sg⟩
theorem yo.up {w:World} {v:Value} {G G':Nat->Prop} {P:List (zF × Value)} (h:yo w v G P) (hg:∀ k,G k->G' k):yo w v G' P:=by
 obtain ⟨la,cap,h1,h2,h3⟩:=h
 exact ⟨la,cap,h1,h2,fun j x hj=>by
  obtain ⟨g,o,sa,sc,q1,q2,q3,q4,q5,q6,q7,q8,q9,q10,q11⟩:=h3 j x hj;exact ⟨g,o,sa,sc,q1,hg _ q2,q3,q4,q5,q6,q7,q8,q9,q10,q11.up hg⟩⟩
def certsOf (P:List (zF × Value)):List zF:=P.map (·.1)
def zjv (n:Nat) (Il:List Nat):List Value:=(List.range n).map fun j=>.bool (decide (j∈Il))
structure zlg (w:World) (base lk mS gi ro n:Nat) (b:Int) (N:Nat) (Rl:List za6) (Ol Il:List Nat) (ra:Option Addr) (rc:Nat) (ov:Value):Prop where
 look:∃ fS nS C,zkD w lk mS nS fS C ra Rl rc b (fun k=>(Value.slice ra Rl.length rc).ownBlock=some k)∧nS<=N∧∀ k,C k->base<=k
 rul:w.ownsRow base 85 2 (.slice ra Rl.length rc) Rl.length (zgr Rl)
 ord:w.ownsRow base 3 1 ov Ol.length (zac Ol)
 inr:zck w gi 4 (zjv n Il)
 res:w.heap[ro]? = some (.cells #[.slice none 0 0,.slice none 0 0] 445 (0,0))
 lo:base<=lk∧base<=mS∧base<=gi∧base<=ro
 few:Rl.length<=400∧∀ r∈Rl,r.1.size<=400∧r.2.size<=maxLen
theorem Tryz.sizeRulesS:(Tryz.prog.info? 82).map (·.size)=some 1:=by kernel_rfl
theorem Tryz.elemBool':Zc Tryz.prog 4 1 1:=zX (z:=.bool false) (by kernel_rfl) rfl (by decide)
theorem Tryz.elemInt':Zc Tryz.prog 3 1 8:=zX (z:=.int .i64 0) (by kernel_rfl) rfl (by decide)
theorem Tryz.boolInfo:∃ i,Tryz.prog.info? 4=some i∧i.zero=some (.bool false)∧i.size=1∧i.bytes=1:=by
 have h:(Tryz.prog.info? 4).map (fun i=>(i.zero,i.size,i.bytes))=some (some (.bool false),1,1):=by kernel_rfl
 cases hq:Tryz.prog.info? 4 with
 | none=>rw [hq] at h;cases h
 | some i=>
  rw [hq] at h;simp at h;exact ⟨i,rfl,h.1,h.2.1,h.2.2⟩
def XM (p:zF × Value):List Value:=[.int .i64 p.1.kind,.int .u16 (p.1.sg:Int),.string p.1.sp,p.2,.int .i64 p.1.f,.int .i64 p.1.t,.int .i64 p.1.n]
def YJ (P:List (zF × Value)):List Value:=P.flatMap XM
theorem zaB:∀ {P:List (zF × Value)} {j:Nat} {p:zF × Value},P[j]? = some p->∀ q,q < 7->(YJ P)[j*7+q]? = (XM p)[q]?
 | p :: P,0,r,h,q,hq=>by
  simp at h;subst h;have:YJ (p :: P)=XM p++YJ P:=rfl;rw [this,List.getElem?_append_left (by simp [XM];omega)];simp
 | p :: P,j+1,r,h,q,hq=>by
  have:YJ (p :: P)=XM p++YJ P:=rfl;rw [this,List.getElem?_append_right (by simp [XM];omega)];have:=zaB (P:=P) (j:=j) (by simpa using h) q hq;rw [<- this]
  congr 1
  simp [XM];omega
def zjJ (w:World) (G:Nat->Prop) (P:List (zF × Value)):Prop:=∀ p∈P,∃ sa sc,p.2=.slice sa p.1.fr.length sc∧ZW w (.slice sa p.1.fr.length sc) G p.1
theorem zaQ {w:World} {base:Nat} {v:Value} {G:Nat->Prop} {P:List (zF × Value)} (h:w.ownsRow base 103 7 v P.length (YJ P)) (hs:zjJ w G P):yo w v (fun k=>G k∨v.ownBlock=some k) P:=by
 have h0:=h;obtain ⟨h1,⟨rfl,h2⟩ | ⟨g,cap,cur,rfl,hg,hh,q1,q2,q3,q4⟩⟩:=h
 ·refine ⟨none,0,by rw [h2],by rw [h2];unfold maxLen;omega,fun j x hj=>?_⟩
  have:j < P.length:=(zlA.1 hj).1;omega
 ·refine ⟨_,cap,rfl,by omega,fun j p hj=>?_⟩
  have hjl:=(zlA.1 hj).1;obtain ⟨sa,sc,e,hc⟩:=hs p (zlB hj)
  have key:∀ q,q < 7->w.cell? ⟨g,0+j*7+q,none⟩=(XM p)[q]?:=fun q hq=>by
   rw [Nat.zero_add,h0.cellAt (j:=j*7+q) (by omega)];exact zaB hj q hq
  refine ⟨g,0,sa,sc,rfl,.inr rfl,e,key 0 (by decide),key 1 (by decide),key 2 (by decide),?_,key 4 (by decide),key 5 (by decide),key 6 (by decide),hc.up (fun _ q=>.inl q)⟩;rw [<- e];exact key 3 (by decide)
theorem Tryz.elemCert:Zc Tryz.prog 103 7 80:=zX (z:=.agg #[.int .i64 0,.int .u16 0,.string ⟨#[]⟩,.slice none 0 0,.int .i64 0,.int .i64 0,.int .i64 0]) (by kernel_rfl) rfl (by decide)
structure zk1 (w:World) (ra:Option Addr) (R:List za6) (rc:Nat) (v:Value) (P:List (zF × Value)) (G:Nat->Prop):Prop where
 rules:zcj w (.slice ra R.length rc) G R
 nil:ra=none->R.length=0∧rc=0
 many:R.length<=140737488355328
 size:R.length<=400->∀ r∈R,r.1.size<=400
 certs:yo w v G P
 few:P.length<=1000
 low:∀ k,G k->k < w.heap.size
end Go.Proofs.YtcilaocknhphnaaGreat
